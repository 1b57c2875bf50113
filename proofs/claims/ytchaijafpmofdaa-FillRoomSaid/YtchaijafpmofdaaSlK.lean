import Derived.Test.YtchaijafpmofdaaSlJ
/-! Laws for the walk by program: numbers that are natural ones, conditions by what they say, rows that are read. -/
namespace Go.Sl
set_option linter.unusedVariables false
set_option linter.unusedSimpArgs false

/-! Numbers. -/
theorem lint_nn {a b : Nat} {k : Int → Prop} (h : a + b ≤ 9223372036854775807) (hk : k ((a + b : Nat) : Int)) : LInt .i64 ((a : Int) + (b : Int)) k := lint_i64 (by omega) (by omega) hk
theorem lint_ns {a b : Nat} (h : b ≤ a) (h2 : a ≤ 9223372036854775807) {k : Int → Prop} (hk : k ((a - b : Nat) : Int)) : LInt .i64 ((a : Int) - (b : Int)) k := lint_i64 (by omega) (by omega) hk
theorem lint_nm {a b : Nat} {k : Int → Prop} (h : a * b ≤ 9223372036854775807) (hk : k ((a * b : Nat) : Int)) : LInt .i64 ((a : Int) * (b : Int)) k := by
  have e : (a : Int) * (b : Int) = ((a * b : Nat) : Int) := by simp
  rw [e]; exact lint_i64 (by omega) rfl hk
theorem lint_n1 {a : Nat} {k : Int → Prop} (h : a + 1 ≤ 9223372036854775807) (hk : k ((a + 1 : Nat) : Int)) : LInt .i64 ((a : Int) + 1) k := lint_i64 (by omega) (by omega) hk
theorem lint_n1s {a : Nat} (h : 1 ≤ a) (h2 : a ≤ 9223372036854775807) {k : Int → Prop} (hk : k ((a - 1 : Nat) : Int)) : LInt .i64 ((a : Int) - 1) k := lint_i64 (by omega) (by omega) hk
theorem lint_id {n : Int} {k : Int → Prop} (h : -9223372036854775808 ≤ n ∧ n ≤ 9223372036854775807) (hk : k n) : LInt .i64 n k := lint_i64 h rfl hk
theorem lint_u8_id {n : Int} {k : Int → Prop} (h : 0 ≤ n ∧ n ≤ 255) (hk : k n) : LInt .u8 n k := lint_u8 h rfl hk
theorem lint_u32_id {n : Int} {k : Int → Prop} (h : 0 ≤ n ∧ n ≤ 4294967295) (hk : k n) : LInt .u32 n k := lint_u32 h rfl hk
theorem lint_u64_id {n : Int} {k : Int → Prop} (h : 0 ≤ n ∧ n ≤ 18446744073709551615) (hk : k n) : LInt .u64 n k := lint_u64 h rfl hk
theorem lint_i32_id {n : Int} {k : Int → Prop} (h : -2147483648 ≤ n ∧ n ≤ 2147483647) (hk : k n) : LInt .i32 n k := lint_i32 h rfl hk
theorem lint_u8_mod {n : Nat} {k : Int → Prop} (hk : k ((n % 256 : Nat) : Int)) : LInt .u8 (n : Int) k := ⟨_, by rw [IntKind.wrap_u8], by
  have : ((n : Int) % 256) = ((n % 256 : Nat) : Int) := by omega
  rw [this]; exact hk⟩
theorem lint_u32_mod {n : Nat} {k : Int → Prop} (hk : k ((n % 4294967296 : Nat) : Int)) : LInt .u32 (n : Int) k := ⟨_, by rw [IntKind.wrap_u32], by
  have : ((n : Int) % 4294967296) = ((n % 4294967296 : Nat) : Int) := by omega
  rw [this]; exact hk⟩
theorem ldiv_nn {a b : Nat} {k : Int → Prop} (hb : b ≠ 0) (ha : a ≤ 9223372036854775807) (hk : k ((a / b : Nat) : Int)) : LAnd ((b : Int) ≠ 0) (LInt .i64 ((a : Int).tdiv (b : Int)) k) :=
  ⟨by omega, by
    rw [tdiv_nat]
    have : a / b ≤ a := Nat.div_le_self _ _
    generalize a / b = q at *
    exact lint_i64 (by omega) rfl hk⟩
theorem lmod_nn {a b : Nat} {k : Int → Prop} (hb : b ≠ 0) (hk : k ((a % b : Nat) : Int)) : LAnd ((b : Int) ≠ 0) (LEq ((a : Int).tmod (b : Int)) k) := ⟨by omega, leq_ (tmod_nat a b) hk⟩
theorem lidx_n {b o n m : Nat} {k : Nat → Nat → Nat → Prop} (hm : m < n) (hk : k b o m) : LIdx (some ⟨b, o, none⟩) n (m : Int) k := ⟨b, o, m, rfl, rfl, hm, hk⟩
theorem lidx_i {b o n : Nat} {i : Int} {k : Nat → Nat → Nat → Prop} (h0 : 0 ≤ i) (hm : i.toNat < n) (hk : k b o i.toNat) : LIdx (some ⟨b, o, none⟩) n i k := ⟨b, o, i.toNat, rfl, (Int.toNat_of_nonneg h0).symm, hm, hk⟩

/-! Conditions. -/
theorem LCond.dec {p : Prop} [Decidable p] {x y : Prop} (ht : p → x) (hf : ¬ p → y) : LCond (decide p) x y := ⟨fun h => ht (of_decide_eq_true h), fun h => hf (of_decide_eq_false h)⟩
theorem LCond.beq {a b : Int} {x y : Prop} (ht : a = b → x) (hf : a ≠ b → y) : LCond (a == b) x y := ⟨fun h => ht (by simpa using h), fun h => hf (by simpa using h)⟩
theorem LCond.bne {a b : Int} {x y : Prop} (ht : a ≠ b → x) (hf : a = b → y) : LCond (a != b) x y := ⟨fun h => ht (by simpa using h), fun h => hf (by simpa using h)⟩
theorem LCond.not {b : Bool} {x y : Prop} (h : LCond b y x) : LCond (!b) x y := ⟨fun h' => h.f (by simpa using h'), fun h' => h.t (by simpa using h')⟩
theorem LCond.dt {p : Prop} [Decidable p] {x y : Prop} (h : p) (hx : x) : LCond (decide p) x y := lcond_t (decide_eq_true h) hx
theorem LCond.df {p : Prop} [Decidable p] {x y : Prop} (h : ¬ p) (hy : y) : LCond (decide p) x y := lcond_f (decide_eq_false h) hy
theorem LCond.bt {a b : Int} {x y : Prop} (h : a = b) (hx : x) : LCond (a == b) x y := lcond_t (by simpa using h) hx
theorem LCond.bf {a b : Int} {x y : Prop} (h : a ≠ b) (hy : y) : LCond (a == b) x y := lcond_f (by simpa using h) hy
theorem LCond.nt {a b : Int} {x y : Prop} (h : a ≠ b) (hx : x) : LCond (a != b) x y := lcond_t (by simpa using h) hx
theorem LCond.nf {a b : Int} {x y : Prop} (h : a = b) (hy : y) : LCond (a != b) x y := lcond_f (by simpa using h) hy
theorem LBool.dt {p : Prop} [Decidable p] {k : Bool → Prop} (h : p) (hk : k true) : LBool (decide p) k := lbool (decide_eq_true h) hk
theorem LBool.df {p : Prop} [Decidable p] {k : Bool → Prop} (h : ¬ p) (hk : k false) : LBool (decide p) k := lbool (decide_eq_false h) hk
theorem LBool.dec {p : Prop} [Decidable p] {k : Bool → Prop} (ht : p → k true) (hf : ¬ p → k false) : LBool (decide p) k := lbool_split (fun h => ht (of_decide_eq_true h)) (fun h => hf (of_decide_eq_false h))

theorem LBool.ett {b : Bool} {k : Bool → Prop} (h : b = true) (hk : k true) : LBool (b == true) k := lbool (by rw [h]; rfl) hk
theorem LBool.etf {b : Bool} {k : Bool → Prop} (h : b = false) (hk : k false) : LBool (b == true) k := lbool (by rw [h]; rfl) hk
theorem LBool.eft {b : Bool} {k : Bool → Prop} (h : b = true) (hk : k false) : LBool (b == false) k := lbool (by rw [h]; rfl) hk
theorem LBool.eff {b : Bool} {k : Bool → Prop} (h : b = false) (hk : k true) : LBool (b == false) k := lbool (by rw [h]; rfl) hk
/-- A bool that is known. -/
theorem is_t {p : Prop} [Decidable p] (h : p) : decide p = true := decide_eq_true h
theorem is_f {p : Prop} [Decidable p] (h : ¬ p) : decide p = false := decide_eq_false h
theorem is_bt {a b : Int} (h : a = b) : (a == b) = true := by simpa using h
theorem is_bf {a b : Int} (h : a ≠ b) : (a == b) = false := by simpa using h
theorem is_nt {a b : Int} (h : a ≠ b) : (a != b) = true := by simpa using h
theorem is_nf {a b : Int} (h : a = b) : (a != b) = false := by simpa using h
theorem is_not_t {b : Bool} (h : b = false) : (!b) = true := by rw [h]; rfl
theorem is_not_f {b : Bool} (h : b = true) : (!b) = false := by rw [h]; rfl
theorem LBool.on {b : Bool} {k : Bool → Prop} (ht : b = true → k true) (hf : b = false → k false) : LBool (b == true) k := lbool_split (fun h => ht (by simpa using h)) (fun h => hf (by simpa using h))
theorem LBool.off {b : Bool} {k : Bool → Prop} (hf : b = false → k true) (ht : b = true → k false) : LBool (b == false) k := lbool_split (fun h => hf (by simpa using h)) (fun h => ht (by simpa using h))

/-! A loop, round by round. -/
structure LIn {P : Program} (Γ : Tab P) (n : Nat) (c : Code) (e : Env) (M : List As) (Q : Exit → Env → List As → Prop) : Prop where
  h : ∀ F a w, EnvOk a n e → Sat w (M ++ F) → ∀ b k cs, ∃ ex a' w', (∃ e' M', Q ex e' M' ∧ EnvOk a' n e' ∧ Sat w' (M' ++ F) ∧ Nx w w') ∧ Arrives P (lone (b.at a (.code c :: .inLoop c :: k)) cs w) b k cs ex a' w'
section
variable {P : Program} {Γ : Tab P} {n : Nat} {c : Code} {e : Env} {M : List As} {Q : Exit → Env → List As → Prop}
theorem LLoop.unroll (h : LIn Γ n c e M Q) : LLoop P n c e M Q := ⟨fun F a w ha hs b k cs => by
  obtain ⟨ex, a', w', hq, harr⟩ := h.h F a w ha hs b k cs
  exact ⟨ex, a', w', hq, .of_steps (.one step_loop) harr⟩⟩
theorem LIn.step (h : cvc Γ n c e M (fun ex e' M' => match ex with | .normal => LIn Γ n c e' M' Q | ex => Q ex e' M')) : LIn Γ n c e M Q := ⟨fun F a w ha hs b k cs => by
  obtain ⟨ex, a1, w1, ⟨e1, M1, hq, ha1, hs1, hn1⟩, harr⟩ := cvc_ok h F a w ha hs b (.inLoop c :: k) cs
  cases ex with
  | normal =>
    obtain ⟨ex2, a2, w2, ⟨e2, M2, hq2, ha2, hs2, hn2⟩, harr2⟩ := LIn.h hq F a1 w1 ha1 hs1 b k cs
    exact ⟨ex2, a2, w2, ⟨e2, M2, hq2, ha2, hs2, hn1.trans hn2⟩, .of_steps (Steps.trans harr (.one step_inLoop)) harr2⟩
  | exit id => exact ⟨_, a1, w1, ⟨e1, M1, hq, ha1, hs1, hn1⟩, .pass (x := .inLoop c) rfl (fun _ _ => .inl (by simp)) harr⟩
  | goto l => exact ⟨_, a1, w1, ⟨e1, M1, hq, ha1, hs1, hn1⟩, .pass (x := .inLoop c) rfl (fun _ _ => .inl (by simp)) harr⟩
  | ret => exact ⟨_, a1, w1, ⟨e1, M1, hq, ha1, hs1, hn1⟩, .pass (x := .inLoop c) rfl (fun _ _ => .inl (by simp)) harr⟩
  | panic ch => exact ⟨_, a1, w1, ⟨e1, M1, hq, ha1, hs1, hn1⟩, .pass (x := .inLoop c) rfl (fun _ _ => .inl (by simp)) harr⟩
  | outgrown => exact ⟨_, a1, w1, ⟨e1, M1, hq, ha1, hs1, hn1⟩, .pass (x := .inLoop c) rfl (fun _ _ => .inl (by simp)) harr⟩⟩
end

/-! Cells, reckoned. -/
def ovr : List Value → List Value → List Value
  | _ :: xs, v :: vs => v :: ovr xs vs
  | xs, [] => xs
  | [], _ => []
def setL : List Value → Nat → List Value → List Value
  | xs, 0, vs => ovr xs vs
  | x :: xs, o + 1, vs => x :: setL xs o vs
  | [], _ + 1, _ => []
theorem ovr_nil (xs : List Value) : ovr xs [] = xs := by cases xs <;> rfl
theorem setL_cons : ∀ (xs : List Value) (o : Nat) (v : Value) (vs : List Value), setL xs o (v :: vs) = setL (xs.set o v) (o + 1) vs
  | [], 0, v, vs => rfl
  | [], o + 1, v, vs => rfl
  | x :: xs, 0, v, vs => by simp [setL, ovr]
  | x :: xs, o + 1, v, vs => by
    show x :: setL xs o (v :: vs) = x :: setL (xs.set o v) (o + 1) vs
    rw [setL_cons]
theorem setL_nil : ∀ (xs : List Value) (o : Nat), setL xs o [] = xs
  | xs, 0 => by unfold setL; exact ovr_nil xs
  | x :: xs, o + 1 => by show x :: setL xs o [] = _; rw [setL_nil]
  | [], o + 1 => rfl
theorem fold_setL (off : Nat) : ∀ (vs : List Value) (n : Nat) (arr : Array Value), (vs.zipIdx n).foldl (fun cs x => cs.setIfInBounds (off + x.2) x.1) arr = (setL arr.toList (off + n) vs).toArray
  | [], n, arr => by rw [setL_nil]; rfl
  | v :: vs, n, arr => by
    rw [List.zipIdx_cons, List.foldl_cons, fold_setL off vs (n + 1), setL_cons]
    simp [Nat.add_assoc]
theorem setL_len : ∀ (xs : List Value) (o : Nat) (vs : List Value), (setL xs o vs).length = xs.length := by
  intro xs o vs
  induction vs generalizing xs o with
  | nil => rw [setL_nil]
  | cons v vs ih => rw [setL_cons, ih]; simp
def fillL (place : Nat → Option (Nat × Nat)) : List Value → List (Nat × Value) → Option (List Value)
  | cs, [] => some cs
  | cs, (i, v) :: rest => match place i with
    | none => none
    | some (off, size) => match Nat.beq v.cells.toList.length size && Nat.ble (off + size) cs.length with
      | true => forceK (setL cs off v.cells.toList) (fun cs' => fillL place cs' rest)
      | false => none
theorem fillL_ok (place : Nat → Option (Nat × Nat)) : ∀ (parts : List (Nat × Value)) (cs : List Value) (r : List Value), fillL place cs parts = some r → Instr.fill place cs.toArray parts = some r.toArray
  | [], cs, r, h => by cases h; rfl
  | (i, v) :: rest, cs, r, h => by
    unfold fillL at h
    unfold Instr.fill
    split at h
    · cases h
    · rename_i off size hp
      rw [hp]
      split at h
      · rename_i hc
        rw [forceK_eq] at h
        simp only [Bool.and_eq_true] at hc
        have h1 := Nat.eq_of_beq_eq_true hc.1
        have h2 := Nat.le_of_ble_eq_true hc.2
        have h3 : v.cells.size = size := by simpa using h1
        have e : (v.cells.size ≠ size || off + v.cells.size > cs.toArray.size) = false := by simp [h3]; omega
        simp only [e, Bool.false_eq_true, if_false]
        have h4 := fillL_ok place rest _ _ h
        have h5 : Array.foldl (fun (cs : Array Value) (x : Value × Nat) => cs.setIfInBounds (off + x.2) x.1) cs.toArray v.cells.zipIdx = (setL cs off v.cells.toList).toArray := by
          rw [← Array.foldl_toList, Array.toList_zipIdx, fold_setL]
          simp
        show Instr.fill place (Array.foldl (fun (cs : Array Value) (x : Value × Nat) => cs.setIfInBounds (off + x.2) x.1) cs.toArray v.cells.zipIdx) rest = _
        rw [h5]
        exact h4
      · cases h
theorem wr_setL {cs : Array Value} {o : Nat} {vs : List Value} (h : o + vs.length ≤ cs.size) : wr cs o vs = (setL cs.toList o vs).toArray := by
  have key : ∀ (vs : List Value) (xs : List Value) (o : Nat), o + vs.length ≤ xs.length → xs.take o ++ vs ++ xs.drop (o + vs.length) = setL xs o vs := by
    intro vs
    induction vs with
    | nil => intro xs o h; rw [setL_nil]; simp
    | cons v vs ih =>
      intro xs o h
      rw [setL_cons, ← ih _ _ (by simp at h ⊢; omega)]
      simp at h
      rw [List.take_set, List.drop_set_of_lt (by omega)]
      rw [show o + (v :: vs).length = o + 1 + vs.length from by simp; omega]
      congr 1
      rw [show xs.take (o + 1) = xs.take o ++ [xs[o]'(by omega)] from by rw [List.take_add_one, List.getElem?_eq_getElem (by omega)]; rfl]
      rw [List.set_append_right _ _ (by simp; omega)]
      have : o - (xs.take o).length = 0 := by simp; omega
      rw [this]
      simp
  unfold wr
  rw [key vs cs.toList o (by simpa using h)]
section
variable {P : Program}
theorem newAlloc2 (Γ : Tab P) {t : TypeId} {z : Value} {sz by' : Nat} {cs : List Value} {k : Value → As → Prop} (h : Γ.inf t = some (z, sz, by')) (hc : forceK z.cells.toList some = some cs) (hk : ∀ b, k (.pointer (some ⟨b, 0, none⟩)) (pt b (.cells cs.toArray t))) : LNew P (Instr.alloc t true (.tuple #[])) k := by
  rw [forceK_eq] at hc
  injection hc with hc
  subst hc
  exact newAlloc Γ h (fun b => by simpa using hk b)
theorem newBox2 {t : TypeId} {v : Value} {cs : List Value} {k : Value → As → Prop} (hc : forceK v.cells.toList some = some cs) (hk : ∀ b, k (.pointer (some ⟨b, 0, none⟩)) (pt b (.cells cs.toArray t))) : LNew P (Instr.box t v) k := by
  rw [forceK_eq] at hc
  injection hc with hc
  subst hc
  exact newBox rfl (fun b => by simpa using hk b)
def buildF (Γ : Tab P) (t : TypeId) (parts : List (Nat × Value)) : Option (List Value) :=
  match Γ.inf t with
  | some (z, _, _) => match Γ.und t with
    | some (.struct fs) => match fs.toList.mapM (fun f => (Γ.inf f.type).map (fun x => (f.offset, x.2.1))) with
      | some places => forceK z.cells.toList (fun l => fillL (fun i => places[i]?) l parts)
      | none => none
    | some (.array _ el) => match Γ.inf el with
      | some (_, sz, _) => forceK z.cells.toList (fun l => fillL (fun i => some (i * sz, sz)) l parts)
      | none => none
    | _ => none
  | none => none
theorem buildF_ok (Γ : Tab P) {t : TypeId} {parts : List (Nat × Value)} {cs : List Value} (h : buildF Γ t parts = some cs) : buildV Γ t parts = some cs.toArray := by
  unfold buildF at h
  unfold buildV
  split at h
  · rename_i z a b hi
    rw [hi]
    dsimp only
    split at h
    · rename_i fs hu
      rw [hu]
      dsimp only
      split at h
      · rename_i places hp
        rw [hp]
        rw [forceK_eq] at h
        simpa using fillL_ok _ _ _ _ h
      · cases h
    · rename_i len el hu
      rw [hu]
      dsimp only
      split at h
      · rename_i z' sz by' hi'
        rw [hi']
        rw [forceK_eq] at h
        simpa using fillL_ok _ _ _ _ h
      · cases h
    · cases h
  · cases h
theorem build2 (Γ : Tab P) {t : TypeId} {parts : Array (Nat × Value)} {cs : List Value} {M : List As} {k : Value → Prop} (h : buildF Γ t parts.toList = some cs) (hk : k (.agg cs.toArray)) : LGet P (Instr.build t parts) M k := build1 Γ (buildF_ok Γ h) hk
theorem newSlice2 (Γ : Tab P) {t el : TypeId} {len : Nat} {parts : Array (Nat × Value)} {z : Value} {sz by' : Nat} {cs : List Value} {k : Value → As → Prop} (hu : Γ.und t = some (.slice el)) (hi : Γ.inf el = some (z, sz, by')) (hle : Nat.ble (len * sz) 16777216 = true) (h0 : Nat.beq (len * sz) 0 = false)
    (h : forceK (sliceCells z.cells (len * sz)).toList (fun l => fillL (fun i => some (i * sz, sz)) l parts.toList) = some cs) (hk : ∀ b, k (.slice (some ⟨b, 0, none⟩) len len) (pt b (.cells cs.toArray el))) : LNew P (Instr.buildSlice t len parts) k :=
  newSlice Γ hu hi hle h0 (by rw [forceK_eq] at h; simpa using fillL_ok _ _ _ _ h) hk
theorem store2 (Γ : Tab P) {t : TypeId} {b o : Nat} {v : Value} {z : Value} {by' sz : Nat} {cs : Array Value} {r : List Value} {T : TypeId} {M N : List As} {k : List As → Prop} (h2 : Γ.inf t = some (z, sz, by')) (tk : Take M (Sl.pt b (.cells cs T (0, 0))) N)
    (h1 : v.cells.toList.all Value.oneC = true) (h3 : Nat.beq v.cells.toList.length sz = true) (hlen : Nat.ble (o + sz) cs.toList.length = true) (hr : forceK (setL cs.toList o v.cells.toList) some = some r) (hk : k (Sl.pt b (.cells r.toArray T (0, 0)) :: N)) : LRunU P (Instr.storeAt t (.pointer (some ⟨b, o, none⟩)) v) M k := by
  have h3' : v.cells.size = sz := by have := Nat.eq_of_beq_eq_true h3; simpa using this
  have hl := Nat.le_of_ble_eq_true hlen
  rw [forceK_eq] at hr
  injection hr with hr
  subst hr
  refine store1 Γ h2 tk h1 (by rw [h3']; exact Nat.beq_refl _) (by simpa using hlen) ?_
  rw [wr_setL (by simp at hl ⊢; omega)]
  exact hk
/-- A part of a block. -/
theorem loadBlk (Γ : Tab P) {t : TypeId} {b o : Nat} {z : Value} {n by' : Nat} {cs : Array Value} {T : TypeId} {fr : Nat × Nat} {vs : List Value} {M : List As} {k : Value → Prop} (h1 : aggD (Γ.und t) = true) (h2 : Γ.inf t = some (z, n, by')) (hb : Has M (Sl.pt b (.cells cs T fr)))
    (hv : forceK ((cs.toList.drop o).take n) some = some vs) (h3 : Nat.beq vs.length n = true) (hk : k (.agg vs.toArray)) : LGet P (Instr.loadAt t (.pointer (some ⟨b, o, none⟩))) M k := by
  rw [forceK_eq] at hv
  injection hv with hv
  refine loadN Γ h1 h2 (vs := vs) ⟨fun j v hj => ⟨fun h s => ?_⟩⟩ (Nat.eq_of_beq_eq_true h3) hk
  obtain ⟨k', hk', hx⟩ := hb.h h s
  refine ⟨cs, T, fr, hk' _ _ hx, ?_⟩
  rw [← hv, List.getElem?_take] at hj
  split at hj
  · rw [List.getElem?_drop] at hj
    simpa using hj
  · cases hj
end

/-! Comparing arrays of numbers. -/
def intsC {β : Type} : List Value → (List Int → Option β) → Option β
  | [], k => k []
  | .int .i64 n :: r, k => intsC r (fun ns => k (n :: ns))
  | _, _ => none
theorem intsC_map {β : Type} : ∀ (l : List Value) (k : List Int → Option β) (r : β), intsC l k = some r → ∃ xs, l = xs.map (Value.int .i64) ∧ k xs = some r
  | [], k, r, h => ⟨[], rfl, h⟩
  | v :: l, k, r, h => by
    unfold intsC at h
    split at h
    · rename_i e; cases e
    · rename_i n r' e
      cases e
      obtain ⟨xs, h1, h2⟩ := intsC_map _ _ _ h
      exact ⟨_ :: xs, by rw [h1]; rfl, h2⟩
    · cases h
section
variable {P : Program}
theorem eqArr2 (Γ : Tab P) {t el : TypeId} {n by' : Nat} {z : Value} {cs ds : Array Value} {xs ys : List Int} {x y : Operand} {M : List As} {k : Value → Prop} (hu : Γ.und t = some (.array n el)) (he : Γ.und el = some (.int .i64)) (hi : Γ.inf el = some (z, 1, by'))
    (hg : P.eqGuardType P.depth t = false) (hc : intsC cs.toList some = some xs) (hd : intsC ds.toList some = some ys) (hx : Nat.beq xs.length n = true) (hy : Nat.beq ys.length n = true) (hk : k (.bool (decide (xs = ys)))) :
    LGet P (do eqGuard .eql t x y (.agg cs) (.agg ds); binOp .eql t (.agg cs) (.agg ds)) M k := by
  obtain ⟨xs', h1, h2⟩ := intsC_map _ _ _ hc
  obtain ⟨ys', h3, h4⟩ := intsC_map _ _ _ hd
  cases h2; cases h4
  have e1 : cs = (xs.map (Value.int .i64)).toArray := by rw [← h1]
  have e2 : ds = (ys.map (Value.int .i64)).toArray := by rw [← h3]
  subst e1; subst e2
  exact eqArr Γ hu he hi hg (Nat.eq_of_beq_eq_true hx) (Nat.eq_of_beq_eq_true hy) hk
theorem neqArr2 (Γ : Tab P) {t el : TypeId} {n by' : Nat} {z : Value} {cs ds : Array Value} {xs ys : List Int} {x y : Operand} {M : List As} {k : Value → Prop} (hu : Γ.und t = some (.array n el)) (he : Γ.und el = some (.int .i64)) (hi : Γ.inf el = some (z, 1, by'))
    (hg : P.eqGuardType P.depth t = false) (hc : intsC cs.toList some = some xs) (hd : intsC ds.toList some = some ys) (hx : Nat.beq xs.length n = true) (hy : Nat.beq ys.length n = true) (hk : k (.bool (!decide (xs = ys)))) :
    LGet P (do eqGuard .neq t x y (.agg cs) (.agg ds); binOp .neq t (.agg cs) (.agg ds)) M k := by
  obtain ⟨xs', h1, h2⟩ := intsC_map _ _ _ hc
  obtain ⟨ys', h3, h4⟩ := intsC_map _ _ _ hd
  cases h2; cases h4
  have e1 : cs = (xs.map (Value.int .i64)).toArray := by rw [← h1]
  have e2 : ds = (ys.map (Value.int .i64)).toArray := by rw [← h3]
  subst e1; subst e2
  exact neqArr Γ hu he hi hg (Nat.eq_of_beq_eq_true hx) (Nat.eq_of_beq_eq_true hy) hk
end

/-! Elements by their places. -/
def gd {α : Type} [Inhabited α] (l : List α) (i : Nat) : α := l.getD i default
section
variable {α : Type} [Inhabited α] {l : List α} {i j : Nat}
theorem gd_get (h : i < l.length) : l[i]? = some (gd l i) := by
  unfold gd; rw [List.getD_eq_getElem?_getD, List.getElem?_eq_getElem h]; rfl
theorem gd_eq (h : i < l.length) : gd l i = l[i] := by
  unfold gd; rw [List.getD_eq_getElem?_getD, List.getElem?_eq_getElem h]; rfl
theorem gd_of {x : α} (h : l[i]? = some x) : gd l i = x := by
  unfold gd; rw [List.getD_eq_getElem?_getD, h]; rfl
theorem gd_out (h : l.length ≤ i) : gd l i = default := by
  unfold gd; rw [List.getD_eq_getElem?_getD, List.getElem?_eq_none h]; rfl
theorem gd_mem (h : i < l.length) : gd l i ∈ l := by rw [gd_eq h]; exact List.getElem_mem h
theorem gd_take (h : i < l.length) : l.take (i + 1) = l.take i ++ [gd l i] := by
  rw [List.take_add_one, gd_get h]; rfl
theorem gd_drop (h : i < l.length) : l.drop i = gd l i :: l.drop (i + 1) := by
  rw [List.drop_eq_getElem_cons h, gd_eq h]
theorem gd_set {x : α} (h : i < l.length) : gd (l.set i x) j = if j = i then x else gd l j := by
  unfold gd
  rw [List.getD_eq_getElem?_getD, List.getD_eq_getElem?_getD, List.getElem?_set]
  by_cases e : i = j
  · subst e; simp [h]
  · have : ¬ j = i := fun e' => e e'.symm
    simp [e, this]
theorem gd_set_self {x : α} (h : i < l.length) : gd (l.set i x) i = x := by rw [gd_set h, if_pos rfl]
theorem gd_set_ne {x : α} (h : j ≠ i) : gd (l.set i x) j = gd l j := by
  unfold gd
  rw [List.getD_eq_getElem?_getD, List.getD_eq_getElem?_getD, List.getElem?_set, if_neg (fun e => h e.symm)]
theorem gd_app_left {m : List α} (h : i < l.length) : gd (l ++ m) i = gd l i := by
  unfold gd; rw [List.getD_eq_getElem?_getD, List.getD_eq_getElem?_getD, List.getElem?_append_left h]
theorem gd_app_right {m : List α} (h : l.length ≤ i) : gd (l ++ m) i = gd m (i - l.length) := by
  unfold gd; rw [List.getD_eq_getElem?_getD, List.getD_eq_getElem?_getD, List.getElem?_append_right h]
theorem gd_app_last {x : α} : gd (l ++ [x]) l.length = x := by rw [gd_app_right (Nat.le_refl _), Nat.sub_self]; rfl
theorem gd_take_lt {k : Nat} (h : i < k) : gd (l.take k) i = gd l i := by
  unfold gd; rw [List.getD_eq_getElem?_getD, List.getD_eq_getElem?_getD, List.getElem?_take, if_pos h]
theorem gd_drop_add {k : Nat} : gd (l.drop k) i = gd l (k + i) := by
  unfold gd; rw [List.getD_eq_getElem?_getD, List.getD_eq_getElem?_getD, List.getElem?_drop]
theorem gd_map {β : Type} [Inhabited β] {f : α → β} (h : i < l.length) : gd (l.map f) i = f (gd l i) := by
  apply gd_of; rw [List.getElem?_map, gd_get h]; rfl
theorem gd_ext {m : List α} (h : l.length = m.length) (hh : ∀ k, k < l.length → gd l k = gd m k) : l = m := by
  apply List.ext_getElem h
  intro k h1 h2
  rw [← gd_eq h1, ← gd_eq h2]; exact hh k h1
theorem mem_gd {x : α} (h : x ∈ l) : ∃ k, k < l.length ∧ gd l k = x := by
  obtain ⟨k, hk, e⟩ := List.mem_iff_getElem.1 h
  exact ⟨k, hk, by rw [gd_eq hk]; exact e⟩
end

/-! Rows that are read: element by element. -/
structure Lies {α : Type} (M : List As) (b o sz : Nat) (enc : α → List Value) (xs : List α) : Prop where
  h : ∀ i x, xs[i]? = some x → Cells M b (o + i * sz) (enc x)
section
variable {α : Type} {enc : α → List Value} {M : List As} {b o sz : Nat} {xs : List α}
theorem Lies.there {y : As} (l : Lies M b o sz enc xs) : Lies (y :: M) b o sz enc xs := ⟨fun i x hx => (l.h i x hx).there⟩
theorem Lies.ent {N : List As} (l : Lies M b o sz enc xs) (h : Ent N M) : Lies N b o sz enc xs := ⟨fun i x hx => ⟨fun j v hj => ⟨fun k s => ((l.h i x hx).h j v hj).h k (h k s)⟩⟩⟩
theorem Lies.app {N : List As} (l : Lies M b o sz enc xs) : Lies (M ++ N) b o sz enc xs := l.ent Ent.dropr
theorem Lies.erow (he : ∀ x, (enc x).length = sz) {E : TypeId} {n cap : Nat} : Lies (ERow E sz enc (some ⟨b, 0, none⟩) n cap xs :: M) b 0 sz enc xs :=
  ⟨fun i x hx => by rw [Nat.zero_add]; exact Cells.erow he rfl hx⟩
theorem Lies.cells [Inhabited α] (l : Lies M b o sz enc xs) {i : Nat} (hi : i < xs.length) : Cells M b (o + i * sz) (enc (gd xs i)) := l.h i _ (gd_get hi)
theorem Lies.cell [Inhabited α] (l : Lies M b o sz enc xs) {i j : Nat} {v : Value} (hi : i < xs.length) (hv : (enc (gd xs i))[j]? = some v) : Cell M b (o + i * sz + j) v := (l.cells hi).h j v hv
theorem Lies.cell0 [Inhabited α] (l : Lies M b o sz enc xs) {i : Nat} {v : Value} (hi : i < xs.length) (hv : (enc (gd xs i))[0]? = some v) : Cell M b (o + i * sz) v := (l.cells hi).h 0 v hv
theorem Lies.drop (l : Lies M b o sz enc xs) (k : Nat) : Lies M b (o + k * sz) sz enc (xs.drop k) := ⟨fun i x hx => by
  rw [List.getElem?_drop] at hx
  have := l.h _ _ hx
  rwa [Nat.add_mul, ← Nat.add_assoc] at this⟩
theorem Lies.take (l : Lies M b o sz enc xs) (k : Nat) : Lies M b o sz enc (xs.take k) := ⟨fun i x hx => by
  rw [List.getElem?_take] at hx
  split at hx
  · exact l.h _ _ hx
  · cases hx⟩
end
section
variable {P : Program} {α : Type} [Inhabited α] {enc : α → List Value} {M : List As} {b o sz : Nat} {xs : List α}
theorem loadElem (Γ : Tab P) {t : TypeId} {z : Value} {n by' i : Nat} {k : Value → Prop} (h1 : aggD (Γ.und t) = true) (h2 : Γ.inf t = some (z, n, by')) (l : Lies M b o sz enc xs) (hi : i < xs.length)
    {vs : List Value} (hv : forceK (enc (gd xs i)) some = some vs) (hn : Nat.beq vs.length n = true) (hk : k (.agg vs.toArray)) : LGet P (Instr.loadAt t (.pointer (some ⟨b, o + i * sz, none⟩))) M k := by
  rw [forceK_eq] at hv
  injection hv with hv
  subst hv
  exact loadN Γ h1 h2 (l.cells hi) (Nat.eq_of_beq_eq_true hn) hk
/-- A part of an element that is a struct or an array. -/
theorem loadPart (Γ : Tab P) {t : TypeId} {z : Value} {n by' i j : Nat} {k : Value → Prop} (h1 : aggD (Γ.und t) = true) (h2 : Γ.inf t = some (z, n, by')) (l : Lies M b o sz enc xs) (hi : i < xs.length)
    {vs : List Value} (hv : forceK (((enc (gd xs i)).drop j).take n) some = some vs) (hn : Nat.beq vs.length n = true) (hk : k (.agg vs.toArray)) : LGet P (Instr.loadAt t (.pointer (some ⟨b, o + i * sz + j, none⟩))) M k :=
  loadN Γ h1 h2 (vs := vs) ⟨fun q v hq => by
    rw [forceK_eq] at hv
    injection hv with hv
    rw [← hv] at hq
    rw [List.getElem?_take] at hq
    split at hq
    · rw [List.getElem?_drop] at hq
      have := (l.cells hi).h (j + q) v hq
      rwa [← Nat.add_assoc] at this
    · cases hq⟩ (Nat.eq_of_beq_eq_true hn) hk
end
/-- A slice's elements can be read. -/
structure Rd {α : Type} (M : List As) (a : Option Addr) (sz : Nat) (enc : α → List Value) (xs : List α) : Prop where
  h : xs = [] ∨ ∃ b o, a = some ⟨b, o, none⟩ ∧ Lies M b o sz enc xs
section
variable {α : Type} {enc : α → List Value} {M : List As} {a : Option Addr} {sz : Nat} {xs : List α}
theorem Rd.nil {a : Option Addr} : Rd M a sz enc [] := ⟨.inl rfl⟩
theorem Rd.of {b o : Nat} (l : Lies M b o sz enc xs) : Rd M (some ⟨b, o, none⟩) sz enc xs := ⟨.inr ⟨b, o, rfl, l⟩⟩
theorem Rd.get (r : Rd M a sz enc xs) {i : Nat} (hi : i < xs.length) : ∃ b o, a = some ⟨b, o, none⟩ ∧ Lies M b o sz enc xs := by
  rcases r.h with h | h
  · subst h; simp at hi
  · exact h
theorem Rd.ent {N : List As} (l : Rd M a sz enc xs) (h : Ent N M) : Rd N a sz enc xs := ⟨l.h.imp id (fun ⟨b, o, e, l⟩ => ⟨b, o, e, l.ent h⟩)⟩
theorem Rd.there {y : As} (l : Rd M a sz enc xs) : Rd (y :: M) a sz enc xs := ⟨l.h.imp id (fun ⟨b, o, e, l⟩ => ⟨b, o, e, l.there⟩)⟩
theorem Rd.app {N : List As} (l : Rd M a sz enc xs) : Rd (M ++ N) a sz enc xs := l.ent Ent.dropr
end
/-- .. the same, of whatever memory there is. -/
structure RdH {α : Type} (M : List As) (a : Option Addr) (sz : Nat) (enc : α → List Value) (xs : List α) : Prop where
  h : ∀ h, Stars M h → xs = [] ∨ ∃ b o, a = some ⟨b, o, none⟩ ∧ ∀ i x, xs[i]? = some x → ∀ j v, (enc x)[j]? = some v → ∃ cs T fr, h b = some (.cells cs T fr) ∧ cs[o + i * sz + j]? = some v
section
variable {α : Type} {enc : α → List Value} {M : List As} {a : Option Addr} {sz : Nat} {xs : List α}
theorem RdH.nil {a : Option Addr} : RdH M a sz enc [] := ⟨fun _ _ => .inl rfl⟩
theorem RdH.of (r : Rd M a sz enc xs) : RdH M a sz enc xs := ⟨fun h s => r.h.imp id (fun ⟨b, o, e, l⟩ => ⟨b, o, e, fun i x hx j v hj => ((l.h i x hx).h j v hj).h h s⟩)⟩
theorem RdH.lies {b o : Nat} (l : Lies M b o sz enc xs) : RdH M (some ⟨b, o, none⟩) sz enc xs := .of (.of l)
theorem RdH.ent {N : List As} (l : RdH M a sz enc xs) (h : Ent N M) : RdH N a sz enc xs := ⟨fun k s => l.h k (h k s)⟩
theorem RdH.app {N : List As} (l : RdH M a sz enc xs) : RdH (M ++ N) a sz enc xs := l.ent Ent.dropr
theorem RdH.there {y : As} (l : RdH M a sz enc xs) : RdH (y :: M) a sz enc xs := l.ent (Ent.drop y)
theorem RdH.erow (he : ∀ x, (enc x).length = sz) {E : TypeId} {n cap : Nat} : RdH (ERow E sz enc a n cap xs :: M) a sz enc xs := ⟨fun h s => by
  obtain ⟨h1, h2, d, l1, l2, r, s'⟩ := s
  rcases r.2.2 with ⟨h0, h3, _⟩ | ⟨g, cur, ha, hg, _⟩
  · left
    have := r.1
    rw [h3] at this
    exact List.eq_nil_of_length_eq_zero this
  · right
    subst ha
    refine ⟨g, 0, rfl, fun i x hx j v hj => ?_⟩
    have c := (Cells.erow (M := M) (E := E) (g := g) (n := n) (cap := cap) he rfl hx).h j v hj
    obtain ⟨cs, T, fr, q1, q2⟩ := c.h h ⟨h1, h2, d, l1, l2, r, s'⟩
    exact ⟨cs, T, fr, q1, by rw [Nat.zero_add]; exact q2⟩⟩
theorem RdH.pure (r : RdH M a sz enc xs) {k : Hp} (s : Stars M k) : Rd M a sz enc xs := by
  refine ⟨?_⟩
  rcases r.h k s with h | ⟨b, o, e, _⟩
  · exact .inl h
  · by_cases hx : xs = []
    · exact .inl hx
    · right
      refine ⟨b, o, e, ⟨fun i x hx' => ⟨fun j v hj => ⟨fun h sh => ?_⟩⟩⟩⟩
      rcases r.h h sh with h' | ⟨b', o', e', l⟩
      · exact absurd h' hx
      · rw [e] at e'
        cases e'
        exact l i x hx' j v hj
theorem Ctr.rd {P : Program} {f : FuncId} {args : Array Value} {R : Value → List As → Prop} (hc : CallOk P f) (r : RdH M a sz enc xs) (h : Rd M a sz enc xs → Ctr P f args M R) : Ctr P f args M R :=
  ⟨hc, fun F w s => (h (r.pure (s.ent Ent.dropr))).2 F w s⟩
theorem LNext.rd {P : Program} {n : Nat} {c : Code} {e : Env} {Q : Exit → Env → List As → Prop} (r : RdH M a sz enc xs) (h : Rd M a sz enc xs → LNext P n c e M Q) : LNext P n c e M Q :=
  LNext.pure (fun k s => r.pure s) h
end
section
variable {α : Type} {enc : α → List Value} {E : TypeId} {sz : Nat} {M N : List As} {a : Option Addr} {n cap : Nat} {xs : List α}
/-- What a row says of its header. -/
structure RowHd (a : Option Addr) (n cap : Nat) (xs : List α) : Prop where
  ad : 0 < xs.length → ∃ g, a = some ⟨g, 0, none⟩
  len : xs.length = n
  le : n ≤ cap
  max : cap ≤ maxLen
  nil : a = none → cap = 0
  some' : ∀ ad, a = some ad → ∃ g, a = some ⟨g, 0, none⟩
theorem RowHd.of {h : Hp} (tk : Take M (ERow E sz enc a n cap xs) N) (s : Stars M h) : RowHd a n cap xs := by
  obtain ⟨h1, h2, d, l1, l2, r, s'⟩ := tk.h h s
  have c := r.2.cap_le
  have n1 : a = none → cap = 0 := by
    intro e
    rcases r.2.2 with ⟨_, _, h3⟩ | ⟨g, cur, ha, _⟩
    · exact h3
    · rw [ha] at e; cases e
  have n2 : ∀ ad, a = some ad → ∃ g, a = some ⟨g, 0, none⟩ := by
    intro ad e
    rcases r.2.2 with ⟨h1', _, _⟩ | ⟨g, cur, ha, _⟩
    · rw [h1'] at e; cases e
    · exact ⟨g, ha⟩
  exact ⟨fun hp => r.2.addr (by have := r.1; omega), r.1, c.1, c.2, n1, n2⟩
theorem Ctr.row {P : Program} {f : FuncId} {args : Array Value} {R : Value → List As → Prop} (hc : CallOk P f) (tk : Take M (ERow E sz enc a n cap xs) N) (h : RowHd a n cap xs → Ctr P f args M R) : Ctr P f args M R :=
  ⟨hc, fun F w s => (h (RowHd.of tk (s.ent Ent.dropr))).2 F w s⟩
theorem LNext.row {P : Program} {k : Nat} {c : Code} {e : Env} {Q : Exit → Env → List As → Prop} (tk : Take M (ERow E sz enc a n cap xs) N) (h : RowHd a n cap xs → LNext P k c e M Q) : LNext P k c e M Q :=
  LNext.pure (fun k s => RowHd.of tk s) h
end

/-! A store into a part of an element. -/
theorem flat_part {α : Type} [Inhabited α] {enc : α → List Value} {sz : Nat} (he : ∀ x, (enc x).length = sz) {j : Nat} {vs : List Value} (hj : j + vs.length ≤ sz) : ∀ {xs : List α} {i : Nat} (x : α), i < xs.length → splice (enc (gd xs i)) j vs = enc x → splice (xs.flatMap enc) (i * sz + j) vs = (xs.set i x).flatMap enc := by
  intro xs
  induction xs with
  | nil => intro i x h; simp at h
  | cons y ys ih =>
    intro i x h hx
    cases i with
    | zero =>
      have e0 : gd (y :: ys) 0 = y := rfl
      rw [e0] at hx
      simp only [splice, Nat.zero_mul, Nat.zero_add, List.set_cons_zero, List.flatMap_cons]
      rw [← hx]
      unfold splice
      rw [List.take_append, List.drop_append, he]
      have e1 : j - sz = 0 := by omega
      have e2 : j + vs.length - sz = 0 := by omega
      simp [e1, e2]
    | succ i =>
      simp at h
      have e0 : gd (y :: ys) (i + 1) = gd ys i := rfl
      rw [e0] at hx
      have h1 : (i + 1) * sz = sz + i * sz := by rw [Nat.add_mul]; omega
      rw [List.set_cons_succ, List.flatMap_cons, List.flatMap_cons, ← ih x h hx]
      unfold splice
      rw [h1, List.take_append, List.drop_append, he, List.take_of_length_le (by rw [he]; omega), List.drop_of_length_le (by rw [he]; omega)]
      have e1 : sz + i * sz + j - sz = i * sz + j := by omega
      have e2 : sz + i * sz + j + vs.length - sz = i * sz + j + vs.length := by omega
      rw [e1, e2]
      simp
section
variable {P : Program} {α : Type} [Inhabited α] {enc : α → List Value} {E : TypeId} {sz : Nat}
theorem storeEPart (Γ : Tab P) (he : ∀ x, (enc x).length = sz) {t : TypeId} {g i j n cap m : Nat} {v z : Value} {by' : Nat} {xs : List α} {M N : List As} {k : List As → Prop} (x : α) (h2 : Γ.inf t = some (z, m, by')) (tk : Take M (ERow E sz enc (some ⟨g, 0, none⟩) n cap xs) N)
    (hi : i < xs.length) (hm : Nat.beq v.cells.size m = true) (hj : Nat.ble (j + m) sz = true) (hv : splice (enc (gd xs i)) j v.cells.toList = enc x) (h1 : v.cells.toList.all Value.oneC = true) (hk : k (ERow E sz enc (some ⟨g, 0, none⟩) n cap (xs.set i x) :: N)) :
    LRunU P (Instr.storeAt t (.pointer (some ⟨g, 0 + i * sz + j, none⟩)) v) M k := by
  have hm' := Nat.eq_of_beq_eq_true hm
  have hj' := Nat.le_of_ble_eq_true hj
  have hvl : v.cells.toList.length = m := by simpa using hm'
  have hle : i * sz + j + m ≤ (xs.flatMap enc).length := by
    have : (i + 1) * sz ≤ xs.length * sz := Nat.mul_le_mul_right _ hi
    rw [flat_len he]
    rw [Nat.succ_mul] at this
    omega
  rw [Nat.zero_add]
  obtain ⟨R, hR, hk2⟩ := (storeRow (P := P) Γ (k := fun M' => M' = Row E sz (some ⟨g, 0, none⟩) n cap (splice (xs.flatMap enc) (i * sz + j) v.cells.toList) :: N) (E := E) (n := n) (cap := cap) h2 (Take.here (x := Row E sz (some ⟨g, 0, none⟩) n cap (xs.flatMap enc)) (M := N)) h1 hm hle rfl).ex
  refine ⟨fun M' => M' = ERow E sz enc (some ⟨g, 0, none⟩) n cap (xs.set i x) :: N, fun F w s => ?_, fun M' e => e ▸ hk⟩
  have s1 := s.ent (Ent.app tk.h (Ent.refl F))
  have hxs : xs.length = n := by obtain ⟨_, _, _, _, _, r, _⟩ := s1; exact r.1
  have s2 : Sat w ((Row E sz (some ⟨g, 0, none⟩) n cap (xs.flatMap enc) :: N) ++ F) := s1.ent (Ent.app (Ent.head (fun k hk => hk.2)) (Ent.refl F))
  obtain ⟨w', M', h3, h4, h5, h6⟩ := hR F w s2
  rw [hk2 _ h4, flat_part he (by omega) x hi hv] at h5
  refine ⟨w', _, h3, rfl, h5.ent (Ent.app (Ent.head (fun k hk => ⟨?_, hk⟩)) (Ent.refl F)), h6⟩
  rw [List.length_set]; exact hxs
end

/-! A region whose calls stand in the text's order, each turning whatever it may. -/
def isCall : Op → Bool
  | .call { callee := .builtin _, .. } => false
  | .call _ => true
  | _ => false
def callsD : List Oper → List (Tmp × Cls)
  | [] => []
  | o :: l => match isCall o.op with
    | true => match o.dst with
      | some d => (d, .D) :: callsD l
      | none => callsD l
    | false => callsD l
theorem LDraw.calls {P : Program} {Γ : Tab P} {n : Nat} {l : List Oper} {e : Env} {M : List As} {K : Env → List As → Prop} (hc : regionChk n .T (callsD l) l = true) (h : vcD Γ l.toArray .T (callsD l) l e M [] K) : LDraw Γ n l e M K :=
  ⟨.inl ⟨.T, callsD l, M, [], hc, by rw [List.append_nil]; exact Ent.refl _, h⟩⟩
/-- .. that leave a part alone, from which the others read. -/
def callsC : List Oper → List (Tmp × Cls)
  | [] => []
  | o :: l => match isCall o.op with
    | true => match o.dst with
      | some d => (d, .C) :: callsC l
      | none => callsC l
    | false => callsC l
theorem LDraw.parts {P : Program} {Γ : Tab P} {n : Nat} {l : List Oper} {e : Env} {M A : List As} {K : Env → List As → Prop} (S : List As) (hc : regionChk n .T (callsC l) l = true) (hM : Split M S A) (h : vcD Γ l.toArray .T (callsC l) l e S A K) : LDraw Γ n l e M K :=
  ⟨.inl ⟨.T, callsC l, S, A, hc, hM.h, h⟩⟩
theorem Split.rest {M : List As} : Split M M [] := ⟨by rw [List.append_nil]; exact Ent.refl _⟩
theorem Split.skip {M L F : List As} {y : As} (s : Split M L F) : Split (y :: M) L (y :: F) := ⟨Ent.trans (Ent.cons y s.h) (Ent.perm List.perm_middle.symm)⟩
theorem Split.tail {M X : List As} : Split (M ++ X) M X := ⟨Ent.refl _⟩
theorem Split.deep {A L F Y : List As} (s : Split A L F) : Split (A ++ Y) L (F ++ Y) := ⟨Ent.trans (Ent.app s.h (Ent.refl Y)) Ent.assoc⟩
section
variable {P : Program} {n : Nat} {c : Code} {e : Env} {M : List As} {Q : Exit → Env → List As → Prop}
theorem LLoop.pure {p : Prop} (hM : ∀ h, Stars M h → p) (h : p → LLoop P n c e M Q) : LLoop P n c e M Q :=
  ⟨fun F a w ha hsat => (h (hM _ (hsat.ent Ent.dropr))).h F a w ha hsat⟩
theorem LLoop.rd {α : Type} {enc : α → List Value} {a : Option Addr} {sz : Nat} {xs : List α} (r : RdH M a sz enc xs) (h : Rd M a sz enc xs → LLoop P n c e M Q) : LLoop P n c e M Q :=
  LLoop.pure (fun k s => r.pure s) h
theorem LLoop.row {α : Type} {enc : α → List Value} {E : TypeId} {sz : Nat} {N : List As} {a : Option Addr} {k cap : Nat} {xs : List α} (tk : Take M (ERow E sz enc a k cap xs) N) (h : RowHd a k cap xs → LLoop P n c e M Q) : LLoop P n c e M Q :=
  LLoop.pure (fun k s => RowHd.of tk s) h
theorem LNext.nilr (h : LNext P n c e M Q) : LNext P n c e (M ++ []) Q := by rw [List.append_nil]; exact h
end
theorem max2m {P : Program} {ats : Array TypeId} {ty : TypeId} {kd : IntKind} {a b : Int} {M : List As} {k : Value → Prop} (hk : k (.int kd (max a b))) : LGet P (Builtin.max_ ats ty #[.int kd a, .int kd b]) M k :=
  max2i (by have : (if b > a then b else a) = max a b := by split <;> omega
            rw [this]; exact hk)
theorem min2m {P : Program} {ats : Array TypeId} {ty : TypeId} {kd : IntKind} {a b : Int} {M : List As} {k : Value → Prop} (hk : k (.int kd (min a b))) : LGet P (Builtin.min_ ats ty #[.int kd a, .int kd b]) M k :=
  min2i (by have : (if b < a then b else a) = min a b := by split <;> omega
            rw [this]; exact hk)
/-! Behind a part that is not looked into. -/
theorem Cell.right {A B : List As} {b o : Nat} {v : Value} (c : Cell B b o v) : Cell (A ++ B) b o v := ⟨fun h s => c.h h (Ent.dropl h s)⟩
theorem Cell.left {A B : List As} {b o : Nat} {v : Value} (c : Cell A b o v) : Cell (A ++ B) b o v := ⟨fun h s => c.h h (Ent.dropr h s)⟩
theorem Cells.right {A B : List As} {b o : Nat} {vs : List Value} (c : Cells B b o vs) : Cells (A ++ B) b o vs := ⟨fun j v hj => (c.h j v hj).right⟩
theorem Cells.left {A B : List As} {b o : Nat} {vs : List Value} (c : Cells A b o vs) : Cells (A ++ B) b o vs := ⟨fun j v hj => (c.h j v hj).left⟩
theorem Has.right {A B : List As} {x : As} (t : Has B x) : Has (A ++ B) x := ⟨fun h s => t.h h (Ent.dropl h s)⟩
theorem Has.left {A B : List As} {x : As} (t : Has A x) : Has (A ++ B) x := ⟨fun h s => t.h h (Ent.dropr h s)⟩
theorem Take.right {A B N : List As} {x : As} (t : Take B x N) : Take (A ++ B) x (A ++ N) := ⟨Ent.trans (Ent.app (Ent.refl A) t.h) (Ent.perm List.perm_middle)⟩
theorem Lies.right {α : Type} {A B : List As} {b o sz : Nat} {enc : α → List Value} {xs : List α} (l : Lies B b o sz enc xs) : Lies (A ++ B) b o sz enc xs := l.ent Ent.dropl
theorem RdH.right {α : Type} {A B : List As} {a : Option Addr} {sz : Nat} {enc : α → List Value} {xs : List α} (l : RdH B a sz enc xs) : RdH (A ++ B) a sz enc xs := l.ent Ent.dropl
theorem Split.front {A M : List As} : Split (A ++ M) M A := ⟨Ent.comm⟩
theorem Split.deepA {A B L F Y : List As} (s : Split (A ++ B) L F) : Split ((A ++ B) ++ Y) L (F ++ Y) := s.deep
theorem Split.right {A B L F : List As} (s : Split B L F) : Split (A ++ B) L (A ++ F) := ⟨Ent.trans (Ent.app (Ent.refl A) s.h) (Ent.perm (by rw [← List.append_assoc, ← List.append_assoc]; exact List.perm_append_comm.append_right F))⟩
theorem Split.same {A B : List As} (s : B = A) : Split A B [] := ⟨by subst s; rw [List.append_nil]; exact Ent.refl _⟩
theorem RdH.nilr {α : Type} {A : List As} {a : Option Addr} {sz : Nat} {enc : α → List Value} {xs : List α} (l : RdH A a sz enc xs) : RdH (A ++ []) a sz enc xs := by rw [List.append_nil]; exact l
theorem Cell.nilr {A : List As} {b o : Nat} {v : Value} (c : Cell A b o v) : Cell (A ++ []) b o v := by rw [List.append_nil]; exact c
theorem Lies.nilr {α : Type} {A : List As} {b o sz : Nat} {enc : α → List Value} {xs : List α} (l : Lies A b o sz enc xs) : Lies (A ++ []) b o sz enc xs := by rw [List.append_nil]; exact l
theorem Take.nilr {A N : List As} {x : As} (t : Take A x N) : Take (A ++ []) x N := by rw [List.append_nil]; exact t
theorem Split.nilr {A L F : List As} (s : Split A L F) : Split (A ++ []) L F := by rw [List.append_nil]; exact s
theorem Has.nilr {A : List As} {x : As} (t : Has A x) : Has (A ++ []) x := by rw [List.append_nil]; exact t
end Go.Sl
