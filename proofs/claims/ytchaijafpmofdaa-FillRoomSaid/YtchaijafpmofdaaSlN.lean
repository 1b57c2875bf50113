import Derived.Test.YtchaijafpmofdaaSlM
/-! More laws: calls that leave memory as it is, texts, slices that are nil or empty, append of what can be read. -/
namespace Go.Sl
set_option linter.unusedVariables false
set_option linter.unusedSimpArgs false
section
variable {P : Program}
/-- Parts of a list, nothing lost. -/
structure TakeP (M : List As) (x : As) (N : List As) : Prop where
  p : M.Perm (x :: N)
theorem TakeP.here {x : As} {M : List As} : TakeP (x :: M) x M := ⟨List.Perm.refl _⟩
theorem TakeP.there {x y : As} {M N : List As} (t : TakeP M x N) : TakeP (y :: M) x (y :: N) := ⟨(t.p.cons y).trans (List.Perm.swap ..)⟩
theorem TakeP.deep {x : As} {M N Y : List As} (t : TakeP M x N) : TakeP (M ++ Y) x (N ++ Y) := ⟨t.p.append_right Y⟩
theorem TakeP.right {x : As} {A B N : List As} (t : TakeP B x N) : TakeP (A ++ B) x (A ++ N) := ⟨(t.p.append_left A).trans List.perm_middle⟩
structure SplitP (M L F : List As) : Prop where
  p : M.Perm (L ++ F)
theorem SplitP.nil {M : List As} : SplitP M [] M := ⟨List.Perm.refl _⟩
theorem SplitP.rest {M : List As} : SplitP M M [] := ⟨by rw [List.append_nil]⟩
theorem SplitP.tail {M X : List As} : SplitP (M ++ X) M X := ⟨List.Perm.refl _⟩
theorem SplitP.cons {M N L F : List As} {x : As} (t : TakeP M x N) (s : SplitP N L F) : SplitP M (x :: L) F := ⟨t.p.trans (s.p.cons x)⟩
theorem SplitP.skip {M L F : List As} {y : As} (s : SplitP M L F) : SplitP (y :: M) L (y :: F) := ⟨(s.p.cons y).trans List.perm_middle.symm⟩
theorem SplitP.deep {A L F Y : List As} (s : SplitP A L F) : SplitP (A ++ Y) L (F ++ Y) := ⟨by rw [← List.append_assoc]; exact s.p.append_right Y⟩
theorem SplitP.deepA {A B L F Y : List As} (s : SplitP (A ++ B) L F) : SplitP ((A ++ B) ++ Y) L (F ++ Y) := s.deep
theorem SplitP.right {A B L F : List As} (s : SplitP B L F) : SplitP (A ++ B) L (A ++ F) := ⟨(s.p.append_left A).trans (by rw [← List.append_assoc, ← List.append_assoc]; exact List.perm_append_comm.append_right F)⟩
theorem ext2 {f : FuncId} {args : Array Value} {M L F : List As} {p : Value → Prop} {k : Value → List As → Prop} (hs : Ctr P f args L (fun v M' => p v ∧ M' = L)) (hM : SplitP M L F) (hk : ∀ v, p v → k v []) : LExt P f args M k :=
  ext1 (R := fun v X => p v ∧ X = []) (hs.weaken (Ent.refl _) (fun v M' ⟨h1, h2⟩ => ⟨[], ⟨h1, rfl⟩, by simpa using h2⟩)) ⟨Ent.perm hM.p⟩ (Ent.perm hM.p.symm) (fun v X ⟨h1, h2⟩ => by subst h2; exact hk v h1)
/-- A contract of a part, of all. -/
theorem Ctr.part {f : FuncId} {args : Array Value} {M L F : List As} {p : Value → Prop} (hs : Ctr P f args L (fun v M' => p v ∧ M' = L)) (hM : SplitP M L F) : Ctr P f args M (fun v M' => p v ∧ M' = M) :=
  ⟨hs.1, fun G w s => by
    refine (hs.2 (F ++ G) w (s.ent (Ent.trans (Ent.app (Ent.perm hM.p) (Ent.refl G)) Ent.assoc))).mono ?_
    rintro e w' ⟨v, M', he, ⟨hr, rfl⟩, hs', hn⟩
    exact ⟨v, M, he, ⟨hr, rfl⟩, hs'.ent (Ent.trans Ent.assoc' (Ent.app (Ent.perm hM.p.symm) (Ent.refl G))), hn⟩⟩
theorem call2 {f : FuncId} {args : Array Value} {M L F : List As} {p : Value → Prop} {k : Value → List As → Prop} (hs : Ctr P f args L (fun v M' => p v ∧ M' = L)) (hM : SplitP M L F) (hk : ∀ v, p v → k v M) : LCall P f args M k :=
  call0 (hs.part hM) hk
theorem call3 {f : FuncId} {args : Array Value} {M : List As} {R : Value → List As → Prop} {k : Value → List As → Prop} (hs : Ctr P f args M R) (hk : ∀ v M', R v M' → k v M') : LCall P f args M k := ⟨R, hs.to, hk⟩
theorem Ctr.up {f : FuncId} {args : Array Value} {y : As} {L : List As} {p : Value → Prop} (hs : Ctr P f args L (fun v M' => p v ∧ M' = L)) : Ctr P f args (y :: L) (fun v M' => p v ∧ M' = y :: L) :=
  hs.part (F := [y]) (SplitP.skip SplitP.rest)

/-! Texts. -/
theorem str_beq (a b : ByteArray) : (a.toList == b.toList) = decide (a = b) := by
  rw [ByteArray.toList_eq, ByteArray.toList_eq]
  by_cases h : a = b
  · subst h; simp
  · have : ¬ a.data = b.data := fun e => h (by cases a; cases b; simpa using e)
    simp [h, this]
theorem eqStr {t : TypeId} {x y : Operand} {a b : ByteArray} {M : List As} {k : Value → Prop} (hk : k (.bool (decide (a = b)))) : LGet P (do eqGuard .eql t x y (.string a) (.string b); binOp .eql t (.string a) (.string b)) M k :=
  ⟨_, fun w s => by simp [eqGuard, binOp, Op.stringOp, str_beq], hk⟩
theorem neqStr {t : TypeId} {x y : Operand} {a b : ByteArray} {M : List As} {k : Value → Prop} (hk : k (.bool (!decide (a = b)))) : LGet P (do eqGuard .neq t x y (.string a) (.string b); binOp .neq t (.string a) (.string b)) M k :=
  ⟨_, fun w s => by simp [eqGuard, binOp, Op.stringOp, str_beq], hk⟩

theorem eqBool [Γ : Tab P] {t : TypeId} {x y : Operand} {a b : Bool} {M : List As} {k : Value → Prop} (hk : k (.bool (decide (a = b)))) (hu : Γ.und t = some .bool := by rfl) : LGet P (do eqGuard .eql t x y (.bool a) (.bool b); binOp .eql t (.bool a) (.bool b)) M k :=
  ⟨_, fun w s => eq_of_equal (r := decide (a = b)) rfl rfl (by cases a <;> cases b <;> exact run_equalIn_bool w 9999 t _ _ (Γ.und_ok _ _ hu)), hk⟩
theorem neqBool [Γ : Tab P] {t : TypeId} {x y : Operand} {a b : Bool} {M : List As} {k : Value → Prop} (hk : k (.bool (!decide (a = b)))) (hu : Γ.und t = some .bool := by rfl) : LGet P (do eqGuard .neq t x y (.bool a) (.bool b); binOp .neq t (.bool a) (.bool b)) M k :=
  ⟨_, fun w s => neq_of_equal (r := decide (a = b)) rfl rfl (by cases a <;> cases b <;> exact run_equalIn_bool w 9999 t _ _ (Γ.und_ok _ _ hu)), hk⟩
theorem capSlice [Γ : Tab P] {t el ty : TypeId} {a : Option Addr} {n c : Nat} {M : List As} {k : Value → Prop} (hk : k (.int .i64 c)) (hu : Γ.und t = some (.slice el) := by rfl) : LGet P (Builtin.cap_ #[t] ty #[.slice a n c]) M k :=
  ⟨_, fun w s => by simp [Builtin.cap_, run_underlying (Γ.und_ok _ _ hu), goInt], hk⟩
/-! Comparing structs. -/
structure EqL (P : Program) (d : Nat) (t : TypeId) (a b : Value) (r : Bool) : Prop where
  h : ∀ w, (Op.equalIn (d + 1) t a b).run P w = .ok r w
structure EqFs (P : Program) (d : Nat) (xs ys : Array Value) (fs : List Field) (r : Bool) : Prop where
  h : ∀ w, (Op.eqFields (d + 1) xs ys fs).run P w = .ok r w
structure PartIs (P : Program) (t : TypeId) (cs : Array Value) (off : Nat) (v : Value) : Prop where
  h : ∀ w, (part t cs off).run P w = .ok v w
theorem EqL.cast {d : Nat} {t : TypeId} {a b : Value} {r r' : Bool} (h : EqL P d t a b r) (e : r = r') : EqL P d t a b r' := e ▸ h
theorem EqL.int (Γ : Tab P) {d : Nat} {t : TypeId} {kd : IntKind} {a b : Int} (hu : Γ.und t = some (.int kd)) : EqL P d t (.int kd a) (.int kd b) (decide (a = b)) := ⟨fun w => by
  simp [Op.equalIn, run_underlying (Γ.und_ok _ _ hu), Bool.beq_eq_decide_eq]⟩
theorem EqL.bool (Γ : Tab P) {d : Nat} {t : TypeId} {a b : Bool} (hu : Γ.und t = some .bool) : EqL P d t (.bool a) (.bool b) (decide (a = b)) := ⟨fun w => by
  simp [Op.equalIn, run_underlying (Γ.und_ok _ _ hu), Bool.beq_eq_decide_eq]⟩
theorem EqL.str (Γ : Tab P) {d : Nat} {t : TypeId} {a b : ByteArray} (hu : Γ.und t = some .string) : EqL P d t (.string a) (.string b) (decide (a = b)) := ⟨fun w => by
  have : (a == b) = decide (a = b) := by
    by_cases h : a = b
    · subst h; simp
    · simp [h]
  simp [Op.equalIn, run_underlying (Γ.und_ok _ _ hu), this]⟩
theorem EqL.arr (Γ : Tab P) {d : Nat} {t el : TypeId} {n by' : Nat} {z : Value} {kd : IntKind} {xs ys : List Int} (hu : Γ.und t = some (.array n el)) (he : Γ.und el = some (.int kd)) (hi : Γ.inf el = some (z, 1, by')) (hx : xs.length = n) (hy : ys.length = n) :
    EqL P (d + 1) t (.agg (xs.map (Value.int kd)).toArray) (.agg (ys.map (Value.int kd)).toArray) (decide (xs = ys)) := ⟨fun w => by
  obtain ⟨i, hi1, hi2, hi3, hi4⟩ := Γ.inf_ok _ _ _ _ hi
  have hc : P.cellsOf el = 1 := by simp [Program.cellsOf, hi1, hi3]
  rw [run_equalIn_array w (d + 1) _ _ (Γ.und_ok _ _ hu) hi1, hc, items_int Γ d he xs ys w _ (fun i h => by have := List.mem_range.1 h; omega)]
  congr 1
  by_cases e : xs = ys
  · subst e; simp
  · have : ¬ (∀ x, x < n → xs.getD x 0 = ys.getD x 0) := by
      intro h
      apply e
      apply List.ext_getElem (by omega)
      intro i h1 h2
      have := h i (by omega)
      simpa [List.getD_eq_getElem?_getD, h1, h2] using this
    simp only [e, decide_false]
    rw [← Bool.not_eq_true, List.all_eq_true]
    simpa using this⟩
theorem EqFs.nil {d : Nat} {xs ys : Array Value} : EqFs P d xs ys [] true := ⟨fun w => by simp [Op.eqFields]⟩
theorem PartIs.one (Γ : Tab P) {t : TypeId} {cs : Array Value} {off : Nat} {v : Value} (h1 : oneD (Γ.und t) = true) (hv : cs[off]? = some v) : PartIs P t cs off v := ⟨fun w => by
  unfold part
  rw [Sem.run_bind, isOne_of Γ h1]
  simp [hv]⟩
theorem PartIs.agg (Γ : Tab P) {t : TypeId} {cs : Array Value} {off sz by' : Nat} {z : Value} {vs : List Value} (h1 : aggD (Γ.und t) = true) (hi : Γ.inf t = some (z, sz, by')) (hv : forceK ((cs.toList.drop off).take sz) some = some vs) : PartIs P t cs off (.agg vs.toArray) := ⟨fun w => by
  rw [forceK_eq] at hv
  injection hv with hv
  unfold part
  rw [Sem.run_bind, isAgg_of Γ h1]
  simp [size_of Γ hi, ← hv, ext_eq]⟩
theorem EqFs.cons {d : Nat} {xs ys : Array Value} {f : Field} {fs : List Field} {a b : Value} {r r' : Bool} (hn : (f.name != "_") = true) (ha : PartIs P f.type xs f.offset a) (hb : PartIs P f.type ys f.offset b) (h : EqL P d f.type a b r) (h' : EqFs P d xs ys fs r') : EqFs P d xs ys (f :: fs) (r && r') := ⟨fun w => by
  have hn' : f.name ≠ "_" := by simpa using hn
  simp only [Op.eqFields, Sem.run_bind, if_pos hn', ha.h, hb.h, h.h, Result.andThen_ok]
  cases r
  · simp
  · simpa using h'.h w⟩
theorem EqL.struct (Γ : Tab P) {d : Nat} {t : TypeId} {xs ys : Array Value} {fs : Array Field} {r : Bool} (hu : Γ.und t = some (.struct fs)) (hp : P.stoodInHeld t = false) (h : EqFs P d xs ys fs.toList r) : EqL P (d + 1) t (.agg xs) (.agg ys) r := ⟨fun w => by
  have hu' := Γ.und_ok _ _ hu
  have hf : P.fieldsOf t = fs := by simp [Program.fieldsOf, hu']
  rw [run_equalIn_struct w (d + 1) t xs ys (by rw [hf]; exact hu') hp, hf]
  exact h.h w⟩
theorem eqAgg {t : TypeId} {x y : Operand} {xs ys : Array Value} {r : Bool} {M : List As} {k : Value → Prop} (h : EqL P 9999 t (.agg xs) (.agg ys) r) (hk : k (.bool r)) (hg : P.eqGuardType P.depth t = false := by decide +kernel) :
    LGet P (do eqGuard .eql t x y (.agg xs) (.agg ys); binOp .eql t (.agg xs) (.agg ys)) M k := ⟨_, fun w s => eq_of_equal (guard_agg hg w) rfl (h.h w), hk⟩
theorem neqAgg {t : TypeId} {x y : Operand} {xs ys : Array Value} {r : Bool} {M : List As} {k : Value → Prop} (h : EqL P 9999 t (.agg xs) (.agg ys) r) (hk : k (.bool (!r))) (hg : P.eqGuardType P.depth t = false := by decide +kernel) :
    LGet P (do eqGuard .neq t x y (.agg xs) (.agg ys); binOp .neq t (.agg xs) (.agg ys)) M k := ⟨_, fun w s => neq_of_equal (guard_agg hg w) rfl (h.h w), hk⟩

/-! Slices that are nil, or not. -/
theorem equalIn_sl_nil (Γ : Tab P) {t el : TypeId} {a : Option Addr} {n c : Nat} (hu : Γ.und t = some (.slice el)) (d : Nat) (w : World) : (Op.equalIn (d + 1) t (.slice a n c) (.slice none 0 0)).run P w = .ok a.isNone w := by
  cases a <;> simp [Op.equalIn, run_underlying (Γ.und_ok _ _ hu)]
theorem eqSlNil [Γ : Tab P] {t el : TypeId} {x y : Operand} {a : Option Addr} {n c : Nat} {M : List As} {k : Value → Prop} (hk : k (.bool a.isNone)) (hu : Γ.und t = some (.slice el) := by rfl) : LGet P (do eqGuard .eql t x y (.slice a n c) (.slice none 0 0); binOp .eql t (.slice a n c) (.slice none 0 0)) M k :=
  ⟨_, fun w s => eq_of_equal (r := a.isNone) rfl rfl (equalIn_sl_nil Γ hu 9999 w), hk⟩
theorem neqSlNil [Γ : Tab P] {t el : TypeId} {x y : Operand} {a : Option Addr} {n c : Nat} {M : List As} {k : Value → Prop} (hk : k (.bool (!a.isNone))) (hu : Γ.und t = some (.slice el) := by rfl) : LGet P (do eqGuard .neq t x y (.slice a n c) (.slice none 0 0); binOp .neq t (.slice a n c) (.slice none 0 0)) M k :=
  ⟨_, fun w s => neq_of_equal (r := a.isNone) rfl rfl (equalIn_sl_nil Γ hu 9999 w), hk⟩
/-- []T{} -/
theorem newSlice0 [Γ : Tab P] {t el : TypeId} {z : Value} {sz by' : Nat} {k : Value → As → Prop} (hk : ∀ b, k (.slice (some ⟨b, 0, none⟩) 0 0) (pt b (.cells #[] el))) (hu : Γ.und t = some (.slice el) := by rfl) (hi : Γ.inf el = some (z, sz, by') := by rfl) : LNew P (Instr.buildSlice t 0 #[]) k :=
  ⟨fun b => .slice (some ⟨b, 0, none⟩) 0 0, .cells #[] el, fun w => by
    have h1 := Γ.und_ok _ _ hu
    simp only [Instr.buildSlice, Sem.run_bind, run_underlying h1, Result.andThen_ok, size_of Γ hi]
    simp [Instr.fill, newRow]
    congr 2
    apply Array.ext'
    simp, hk⟩
theorem Take.empty {α : Type} {enc : α → List Value} {E : TypeId} {sz b : Nat} {M : List As} : Take (Sl.pt b (.cells #[] E) :: M) (ERow E sz enc (some ⟨b, 0, none⟩) 0 0 ([] : List α)) M :=
  ⟨Ent.head (fun h e => ⟨rfl, by simp, .inr ⟨b, #[], rfl, e, Nat.le_refl _, Nat.zero_le _, by simp, by simp⟩⟩)⟩
theorem ent_e0 {α : Type} {enc : α → List Value} {E : TypeId} {sz : Nat} {M : List As} : Ent M (ERow E sz enc none 0 0 ([] : List α) :: M) := fun h s => ⟨Hp.nil, h, Hp.dis_nil _, Hp.nil_le _, Hp.le_refl _, ⟨rfl, by simp, .inl ⟨rfl, rfl, rfl⟩⟩, s⟩
theorem Take.nil {α : Type} {enc : α → List Value} {E : TypeId} {sz : Nat} {M : List As} : Take M (ERow E sz enc none 0 0 ([] : List α)) M := ⟨ent_e0⟩
theorem append_zero (Γ : Tab P) {T E ty : TypeId} {z : Value} {sz bytes : Nat} (hu : Γ.und T = some (.slice E)) (hi : Γ.inf E = some (z, sz, bytes)) {a : Option Addr} {n cap c : Nat} (hn : n ≤ cap) (w : World) :
    (Builtin.append_ #[T, T] ty #[.slice a n cap, .slice none 0 c]).run P w = .ok (.slice a n cap) w := by
  obtain ⟨i, hi1, hi2, hi3, hi4⟩ := Γ.inf_ok _ _ _ _ hi
  have hu' := Γ.und_ok _ _ hu
  cases a with
  | none => simp [Builtin.append_, run_underlying hu', sizeOf, typeInfo, hi1, Builtin.lenOf, Builtin.firstCells, hn]
  | some a => simp [Builtin.append_, run_underlying hu', sizeOf, typeInfo, hi1, Builtin.lenOf, Builtin.firstCells, hn, storeCells]
section
variable {α : Type} {enc : α → List Value} {E : TypeId} {sz : Nat}
/-- append(xs, y): of what lies behind. -/
theorem appendE (Γ : Tab P) {T ty : TypeId} {z : Value} {bytes : Nat} {a : Option Addr} {n cap m c sb so : Nat} {xs : List α} (ys : List α) {M N : List As} {k : Value → List As → Prop} (tk : Take M (ERow E sz enc a n cap xs) N) (he : ∀ x, (enc x).length = sz) (hu : Γ.und T = some (.slice E)) (hi : Γ.inf E = some (z, sz, bytes)) (hzs : Nat.beq z.cells.size sz = true) (hsz : Nat.blt 0 sz = true)
    (hm : ys.length = m) (hsrc : Cells N sb so (ys.flatMap enc)) (h1 : ∀ x ∈ ys, (enc x).all Value.oneC = true) (h63 : n + m ≤ maxLen) (hb : (n + m) * bytes ≤ 140737488355328) (hpos : 0 < n + m)
    (hk : ∀ g cap', k (.slice (some ⟨g, 0, none⟩) (n + m) cap') (ERow E sz enc (some ⟨g, 0, none⟩) (n + m) cap' (xs ++ ys) :: N)) : LRun P (Builtin.append_ #[T, T] ty #[.slice a n cap, .slice (some ⟨sb, so, none⟩) m c]) M k :=
  appendERow Γ he hu hi hzs hsz tk hm hsrc h1 h63 hb hpos hk
theorem storeE (Γ : Tab P) {t : TypeId} {g o i n cap : Nat} {v z : Value} {by' : Nat} {xs : List α} {M N : List As} {k : List As → Prop} (x : α) (tk : Take M (ERow E sz enc (some ⟨g, 0, none⟩) n cap xs) N) (he : ∀ x, (enc x).length = sz) (h2 : Γ.inf t = some (z, sz, by'))
    (ho : o = i * sz) (hi : i < xs.length) (hv : v.cells.toList = enc x) (h1 : (enc x).all Value.oneC = true) (hk : k (ERow E sz enc (some ⟨g, 0, none⟩) n cap (xs.set i x) :: N)) : LRunU P (Instr.storeAt t (.pointer (some ⟨g, o, none⟩)) v) M k :=
  storeERow Γ he x h2 tk ho hi hv h1 hk
theorem storeP [Inhabited α] (Γ : Tab P) {t : TypeId} {g i j n cap m : Nat} {v z : Value} {by' : Nat} {xs : List α} {M N : List As} {k : List As → Prop} (x : α) (tk : Take M (ERow E sz enc (some ⟨g, 0, none⟩) n cap xs) N) (he : ∀ x, (enc x).length = sz) (h2 : Γ.inf t = some (z, m, by'))
    (hi : i < xs.length) (hm : Nat.beq v.cells.size m = true) (hj : Nat.ble (j + m) sz = true) (hv : splice (enc (gd xs i)) j v.cells.toList = enc x) (h1 : v.cells.toList.all Value.oneC = true) (hk : k (ERow E sz enc (some ⟨g, 0, none⟩) n cap (xs.set i x) :: N)) :
    LRunU P (Instr.storeAt t (.pointer (some ⟨g, 0 + i * sz + j, none⟩)) v) M k :=
  storeEPart Γ he x h2 tk hi hm hj hv h1 hk
/-- append(xs, ys...) of what can be read. -/
theorem appendRd (Γ : Tab P) {T ty : TypeId} {z : Value} {bytes : Nat} {a sa : Option Addr} {n cap m c : Nat} {xs : List α} (ys : List α) {M N : List As} {k : Value → List As → Prop} (tk : Take M (ERow E sz enc a n cap xs) N) (he : ∀ x, (enc x).length = sz) (hu : Γ.und T = some (.slice E)) (hi : Γ.inf E = some (z, sz, bytes)) (hzs : Nat.beq z.cells.size sz = true) (hsz : Nat.blt 0 sz = true)
    (hm : ys.length = m) (hsa : sa = none → m = 0) (hsrc : RdH N sa sz enc ys) (h1 : ∀ x ∈ ys, (enc x).all Value.oneC = true) (h63 : n + m ≤ maxLen) (hb : (n + m) * bytes ≤ 140737488355328)
    (hk : ∀ a' cap', (0 < n + m → ∃ g, a' = some ⟨g, 0, none⟩) → k (.slice a' (n + m) cap') (ERow E sz enc a' (n + m) cap' (xs ++ ys) :: N)) :
    LRun P (Builtin.append_ #[T, T] ty #[.slice a n cap, .slice sa m c]) M k :=
  ⟨fun v M' => ∃ a' cap', (0 < n + m → ∃ g, a' = some ⟨g, 0, none⟩) ∧ v = .slice a' (n + m) cap' ∧ M' = ERow E sz enc a' (n + m) cap' (xs ++ ys) :: N, fun F w s => by
    have s1 := s.ent (Ent.app tk.h (Ent.refl F))
    have hxs : xs.length = n := by obtain ⟨_, _, _, _, _, r, _⟩ := s1; exact r.1
    have s2 : Sat w (Row E sz a n cap (xs.flatMap enc) :: (N ++ F)) := s1.ent (Ent.head (fun k hk => hk.2))
    have sN : Sat w N := (s2.ent (Ent.drop _)).ent Ent.dropr
    cases sa with
    | none =>
      have hm0 := hsa rfl
      subst hm0
      have hys : ys = [] := List.eq_nil_of_length_eq_zero hm
      subst hys
      obtain ⟨k1, k2, d, l1, l2, r, sL⟩ := s2
      have hcl := r.cap_le
      refine ⟨_, w, _, append_zero Γ hu hi hcl.1 w, ⟨a, cap, fun hp => r.addr (by omega), rfl, rfl⟩, ?_, Nx.refl _⟩
      rw [List.append_nil]
      exact s1
    | some sad =>
      have hsrc' : ∀ j u, (ys.flatMap enc)[j]? = some u → w.cell? (sad.add j) = some u := by
        intro j u hj
        rcases (hsrc.pure sN).h with h | ⟨b, o, e, hl⟩
        · subst h; simp at hj
        · cases e
          have hpos : 0 < sz := by simpa [Nat.blt_eq] using hsz
          obtain ⟨x, q1, q2⟩ := (show ∃ x, ys[j / sz]? = some x ∧ (enc x)[j % sz]? = some u from by
            have hlt := (List.getElem?_eq_some_iff.1 hj).1
            rw [flat_len he] at hlt
            have hd : j / sz < ys.length := by rw [Nat.div_lt_iff_lt_mul hpos]; exact hlt
            refine ⟨ys[j / sz], List.getElem?_eq_getElem hd, ?_⟩
            have := flat_get he (List.getElem?_eq_getElem hd) (Nat.mod_lt j hpos)
            rw [show j / sz * sz + j % sz = j from Nat.div_add_mod' j sz] at this
            rw [← this]; exact hj)
          have h3 := ((hl.h _ x q1).h _ _ q2).get sN
          have hadd : (⟨b, o, none⟩ : Addr).add j = ⟨b, o + j, none⟩ := by unfold Addr.add; split <;> simp_all
          rw [hadd]
          rw [Nat.add_assoc, Nat.div_add_mod'] at h3
          exact h3
      obtain ⟨a', cap', w', h3, h4, h5, h6⟩ := append_sat (P := P) Γ (ty := ty) (c := c) (src := sad) (news := ys.flatMap enc) (m := m) hu hi (Nat.eq_of_beq_eq_true hzs) (by simpa [Nat.blt_eq] using hsz) s2 (by rw [flat_len he, hm]) hsrc'
        (fun u hu => by
          obtain ⟨x, hx, hux⟩ := List.mem_flatMap.1 hu
          exact oneC_ok (List.all_eq_true.1 (h1 x hx) u hux)) h63 hb
      refine ⟨_, w', _, h3, ⟨a', cap', h6, rfl, rfl⟩, h4.ent (Ent.head (fun k hk => ⟨by simp [hxs, hm], ?_⟩)), h5⟩
      rw [List.flatMap_append]; exact hk, fun v M' ⟨a', cap', e0, e1, e2⟩ => by subst e1; subst e2; exact hk a' cap' e0⟩
end
end
theorem RdH.pt {α : Type} {enc : α → List Value} {b sz : Nat} {cs : Array Value} {T : TypeId} {fr : Nat × Nat} {M : List As} {xs : List α} (he : ∀ x, (enc x).length = sz) (hc : cs.toList = xs.flatMap enc) : RdH (Sl.pt b (.cells cs T fr) :: M) (some ⟨b, 0, none⟩) sz enc xs :=
  .lies ⟨fun i x hx => ⟨fun j v hj => Cell.pt (by
    have hlt := (List.getElem?_eq_some_iff.1 hj).1
    rw [he] at hlt
    rw [Nat.zero_add, ← Array.getElem?_toList, hc, flat_get he hx hlt]; exact hj)⟩⟩
theorem not64 {n : Int} (h : -9223372036854775808 ≤ n ∧ n ≤ 9223372036854775807) : IntKind.i64.wrap (BitVec.ofInt 64 (-1) ^^^ BitVec.ofInt 64 n).toNat = -1 - n := by
  have e1 : BitVec.ofInt 64 (-1) = BitVec.allOnes 64 := by decide
  rw [e1, BitVec.allOnes_xor, BitVec.toNat_not, BitVec.toNat_ofInt, IntKind.wrap_i64]
  have : (((2 : Nat) ^ 64 : Nat) : Int) = 18446744073709551616 := by decide
  rw [this]
  have h2 : (2 : Nat) ^ 64 = 18446744073709551616 := by decide
  rw [h2]
  have h3 : 0 ≤ n % 18446744073709551616 := by omega
  omega
/-- ^x -/
theorem unNot {P : Program} {n : Int} {M : List As} {k : Value → Prop} (h : -9223372036854775808 ≤ n ∧ n ≤ 9223372036854775807) (hk : k (.int .i64 (-1 - n))) : LGet P (Op.unary .xor (.int .i64 n)) M k :=
  ⟨_, fun w s => by
    have := not64 h
    simp only [Op.unary, Op.intBits, IntKind.signed, if_true]
    show Result.ok (Value.int IntKind.i64 (IntKind.i64.wrap (BitVec.ofInt 64 (-1) ^^^ BitVec.ofInt 64 n).toNat)) w = _
    rw [this], hk⟩
/-! The same by short names, each with its search. -/
section
variable {P : Program} [Γ : Tab P] {n : Nat}
theorem zdr {l : List Oper} {e : Env} {M : List As} {K : Env → List As → Prop} (h : vcD Γ l.toArray .T [] l e M [] K) (hc : regionChk n .T [] l = true := by decide +kernel) : LDraw Γ n l e M K := LDraw.all hc h
theorem zdc {l : List Oper} {e : Env} {M : List As} {K : Env → List As → Prop} (h : vcD Γ l.toArray .T (callsD l) l e M [] K) (hc : regionChk n .T (callsD l) l = true := by decide +kernel) : LDraw Γ n l e M K := LDraw.calls hc h
theorem zne {c : Code} {e : Env} {M : List As} {Q : Exit → Env → List As → Prop} (h : cvc Γ n c e M Q) : LNext P n c e M Q := LNext.go Γ h
theorem ztx {l : List Oper} {e : Env} {M : List As} {K : Env → List As → Prop} (h : vcT Γ l.toArray [] l e M K) (hd : l.all (dstOk n) = true := by rfl) : LText Γ n l e M K := LText.all hd h
end
theorem zTk {M N : List As} {x : As} (h : Take M x N := by repeat (first | exact Take.here | exact Take.map0 | exact Take.empty | exact Take.nil | exact Take.made _ rfl rfl (by decide) (by simp only [maxLen]; omega) | apply Take.there | apply Take.nilr | apply Take.right)) : Take M x N := h
theorem zSp {M L F : List As} (h : Split M L F := by repeat (first | exact Split.nil | exact Split.rest | exact Split.tail | exact Split.front | (apply Split.cons; focus (exact zTk)) | apply Split.skip | apply Split.nilr | apply Split.deepA | apply Split.right)) : Split M L F := h
theorem zSq {M L F : List As} (h : SplitP M L F := by repeat (first | exact SplitP.nil | exact SplitP.rest | exact SplitP.tail | (apply SplitP.cons; focus (repeat (first | exact TakeP.here | apply TakeP.there | apply TakeP.right | apply TakeP.deep))) | apply SplitP.skip | apply SplitP.deepA | apply SplitP.right)) : SplitP M L F := h
theorem zEn {M N : List As} (h : Ent M N := by first | exact Split.ent zSp | exact Ent.refl _) : Ent M N := h
theorem zCe {M : List As} {b o : Nat} {v : Value} (h : Cell M b o v := by repeat (first | assumption | exact Cell.pt rfl | exact Cell.left (by assumption) | apply Cell.there | apply Cell.nilr | apply Cell.right)) : Cell M b o v := h
theorem zCs {M : List As} {b o : Nat} {vs : List Value} (h : Cells M b o vs := by repeat (first | exact Cells.pt | apply Cells.there | apply Cells.right)) : Cells M b o vs := h
theorem zRd {α : Type} {M : List As} {a : Option Addr} {sz : Nat} {enc : α → List Value} {xs : List α} (h : RdH M a sz enc xs := by repeat (first | assumption | exact RdH.erow (by intro _; rfl) | exact RdH.of (by assumption) | exact RdH.app (by assumption) | exact RdH.pt (by intro _; rfl) (by rfl) | apply RdH.there | apply RdH.nilr | apply RdH.right)) : RdH M a sz enc xs := h
theorem zHa {M : List As} {x : As} (h : Has M x := by repeat (first | exact Has.here | apply Has.there | apply Has.nilr | apply Has.right)) : Has M x := h
theorem zSu {ρ : List (Nat × Value)} {e : Env} (h : Sub ρ e := by repeat (first | exact trivial | refine ⟨rfl, ?_⟩)) : Sub ρ e := h
theorem zOm {p : Prop} (h : p := by first | assumption | omega | (simp only [List.length_set, List.length_append, List.length_take, List.length_drop, List.length_replicate, List.length_map, List.length_cons, List.length_nil] at *; omega)) : p := h
end Go.Sl
