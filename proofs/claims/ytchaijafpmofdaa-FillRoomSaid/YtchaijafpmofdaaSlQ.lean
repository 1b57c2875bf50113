import Derived.Test.YtchaijafpmofdaaSlP
/-! Bytes: rows that are only read, texts to bytes and back, the order of texts. -/
namespace Go.Sl
set_option linter.unusedVariables false
set_option linter.unusedSimpArgs false
set_option linter.unusedSectionVars false

def encU (x : UInt8) : List Value := [.int .u8 (x.toNat : Int)]
theorem encU_len (x : UInt8) : (encU x).length = 1 := rfl
/-- A slice's elements lie there; whose row it is is not told. -/
def RdA {α : Type} (a : Option Addr) (sz : Nat) (enc : α → List Value) (xs : List α) : As := fun h =>
  xs = [] ∨ ∃ b o, a = some ⟨b, o, none⟩ ∧ ∀ i x, xs[i]? = some x → ∀ j v, (enc x)[j]? = some v → ∃ cs T fr, h b = some (.cells cs T fr) ∧ cs[o + i * sz + j]? = some v
section
variable {α : Type} {enc : α → List Value} {M : List As} {sz : Nat} {a : Option Addr} {xs : List α}
theorem RdA.mono {h k : Hp} (r : RdA a sz enc xs h) (l : Hp.le h k) : RdA a sz enc xs k := by
  rcases r with r | ⟨b, o, e, r⟩
  · exact .inl r
  · refine .inr ⟨b, o, e, fun i x hx j v hj => ?_⟩
    obtain ⟨cs, T, fr, h1, h2⟩ := r i x hx j v hj
    exact ⟨cs, T, fr, l _ _ h1, h2⟩
theorem RdH.rda : RdH (RdA a sz enc xs :: M) a sz enc xs := ⟨fun h ⟨h1, _, _, l1, _, r, _⟩ => r.mono l1⟩
theorem Take.rda (he : ∀ x, (enc x).length = sz) {E : TypeId} {n cap : Nat} : Take (ERow E sz enc a n cap xs :: M) (RdA a sz enc xs) M := ⟨fun h s => by
  obtain ⟨h1, h2, d, l1, l2, r, s⟩ := s
  refine ⟨h1, h2, d, l1, l2, ?_, s⟩
  have := (RdH.erow he (M := []) (xs := xs) (E := E) (a := a) (n := n) (cap := cap)).h h1 ⟨h1, Hp.nil, by intro c; exact .inr rfl, Hp.le_refl _, Hp.nil_le _, r, trivial⟩
  exact this⟩
theorem Take.rdaTake (k : Nat) : Take (RdA a sz enc xs :: M) (RdA a sz enc (xs.take k)) M := ⟨Ent.head (fun h r => by
  rcases r with r | ⟨b, o, e, r⟩
  · exact .inl (by rw [r]; simp)
  · refine .inr ⟨b, o, e, fun i x hx => r i x ?_⟩
    rw [List.getElem?_take] at hx
    split at hx
    · exact hx
    · cases hx)⟩
theorem RdA.nil' (h : Hp) : RdA a sz enc ([] : List α) h := .inl rfl
theorem ent_rda0 : Ent M (RdA a sz enc ([] : List α) :: M) := fun h s => ⟨Hp.nil, h, Hp.dis_nil _, Hp.nil_le _, Hp.le_refl _, .inl rfl, s⟩
end
section
variable {P : Program}
/-- Regions in which texts become bytes. -/
def convOv (Γ : Tab P) : List Oper → List (Tmp × Cls)
  | [] => []
  | o :: l => match o.op with
    | .convert _ d _ => match Γ.und d with
      | some (.slice _) => match o.dst with
        | some t => (t, .D) :: convOv Γ l
        | none => convOv Γ l
      | _ => convOv Γ l
    | _ => convOv Γ l
theorem ztc [Γ : Tab P] {n : Nat} {l : List Oper} {e : Env} {M : List As} {K : Env → List As → Prop} (h : vcT Γ l.toArray (convOv Γ l) l e M K) (hd : l.all (dstOk n) = true := by rfl) : LText Γ n l e M K := ⟨_, hd, h⟩
variable {M N : List As} {k : Value → List As → Prop}
/-- []byte(s) -/
theorem convSB [Γ : Tab P] {s d el : TypeId} {b : ByteArray} (hk : ∀ g cap, k (.slice (some ⟨g, 0, none⟩) b.data.toList.length cap) (RdA (some ⟨g, 0, none⟩) 1 encU b.data.toList :: M)) (hu : Γ.und s = some .string := by rfl) (hd : Γ.und d = some (.slice el) := by rfl) (he : Γ.und el = some (.int .u8) := by rfl) :
    LRun P (convert s d (.string b)) M k :=
  ⟨fun v M' => ∃ g cap, v = .slice (some ⟨g, 0, none⟩) b.data.toList.length cap ∧ M' = RdA (some ⟨g, 0, none⟩) 1 encU b.data.toList :: M, fun F w s' => by
    have hr := run_bytes_of_string (P := P) w s d el b (Γ.und_ok _ _ hu) (Γ.und_ok _ _ hd) (Γ.und_ok _ _ he)
    refine ⟨_, _, _, hr, ⟨w.heap.size, _, rfl, rfl⟩, ?_, ⟨rfl, rfl, rfl, by simp⟩⟩
    refine ((s'.same (w' := w.drew) rfl).alloc _).ent (Ent.head (fun h e => .inr ⟨_, 0, rfl, fun i x hx j v hj => ⟨_, _, _, e, ?_⟩⟩))
    have hi : i < b.data.size := by simpa using (List.getElem?_eq_some_iff.1 hx).1
    cases j with
    | succ j => simp [encU] at hj
    | zero =>
      have := bytesRow_at b (grownCap w b.size 0 el) i hi
      have hxx : x = b.data[i] := by
        rw [Array.getElem?_toList, Array.getElem?_eq_getElem hi] at hx
        injection hx with hx; exact hx.symm
      simp only [encU, List.getElem?_cons_zero, Option.some.injEq] at hj
      rw [show (0 : Nat) + i * 1 + 0 = i by omega]
      rw [← hj, hxx]; exact this, fun v M' ⟨g, cap, e1, e2⟩ => by subst e1; subst e2; exact hk g cap⟩
/-- []byte of a literal row: it is marked. -/
theorem convLit [Γ : Tab P] {d el : TypeId} {g n cap : Nat} {cs : Array Value} {T : TypeId} (hk : k (.slice (some ⟨g, 0, none⟩) n cap) (Sl.pt g (.cells cs T (cs.size, cs.size + 1)) :: N)) (tk : Take M (Sl.pt g (.cells cs T (0, 0))) N := by exact zTk) (hd : Γ.und d = some (.slice el) := by rfl) (he : Γ.und el = some (.int .u8) := by rfl) :
    LRun P (convert d d (.slice (some ⟨g, 0, none⟩) n cap)) M k :=
  ⟨fun v M' => v = .slice (some ⟨g, 0, none⟩) n cap ∧ M' = Sl.pt g (.cells cs T (cs.size, cs.size + 1)) :: N, fun F w s' => by
    have s1 := s'.ent (Ent.app tk.h (Ent.refl F))
    have hg : w.heap[g]? = some (.cells cs T (0, 0)) := s1.pt
    have hlt : g < w.heap.size := by
      rcases Nat.lt_or_ge g w.heap.size with h | h
      · exact h
      · rw [Array.getElem?_eq_none h] at hg; cases hg
    have hsh : w.shape? g = some (T, cs.size) := by unfold World.shape?; rw [hg]
    have hh : ∀ q, (w.freeze ⟨g, cs.size, none⟩ 1).heap[q]? = if q = g then some (.cells cs T (cs.size, cs.size + 1)) else w.heap[q]? := by
      intro q
      unfold World.freeze
      rw [if_neg (by decide)]
      show (w.heap.modify g _)[q]? = _
      rw [Array.getElem?_modify]
      by_cases e : q = g
      · subst e; rw [if_pos rfl, if_pos rfl, hg]; rfl
      · rw [if_neg (fun h => e h.symm), if_neg e]
    refine ⟨_, w.freeze ⟨g, cs.size, none⟩ 1, _, ?_, ⟨rfl, rfl⟩, s1.setBlock (fun q hq => by rw [hh, if_neg hq]) (by rw [hh, if_pos rfl]), ?_⟩
    · have h1 := Γ.und_ok _ _ hd
      have h2 := Γ.und_ok _ _ he
      simp [convert, run_underlying h1, run_underlying h2, markStringish, hsh]
    · unfold World.freeze
      rw [if_neg (by decide)]
      exact ⟨rfl, rfl, rfl, by simp⟩, fun v M' ⟨e1, e2⟩ => by subst e1; subst e2; exact hk⟩
/-- string(b) -/
theorem convBS [Γ : Tab P] {s d el : TypeId} {a : Option Addr} {cap : Nat} {xs : List UInt8} {K : Value → Prop} (hr : RdH M a 1 encU xs) (hk : K (.string ⟨xs.toArray⟩)) (hu : Γ.und s = some (.slice el) := by rfl) (hd : Γ.und d = some .string := by rfl) (he : Γ.und el = some (.int .u8) := by rfl) :
    LGet P (convert s d (.slice a xs.length cap)) M K :=
  ⟨_, fun w s' => by
    have h1 := Γ.und_ok _ _ hu
    have h2 := Γ.und_ok _ _ hd
    have h3 := Γ.und_ok _ _ he
    rcases hr.h _ s' with e | ⟨b, o, rfl, l⟩
    · subst e
      cases a with
      | none => simp [convert, run_underlying h1, run_underlying h2, run_underlying h3, Conv.bytesToString]; rfl
      | some ad => exact run_convert_bytes_back (P := P) w s d el ad cap [] h1 h3 h2 (fun j hj => absurd hj (Nat.not_lt_zero _))
    · refine run_convert_bytes_back (P := P) w s d el _ cap xs h1 h3 h2 (fun j hj => ?_)
      obtain ⟨cs, T, fr, q1, q2⟩ := l j _ (List.getElem?_eq_getElem hj) 0 _ rfl
      have q1' : w.heap[b]? = some (.cells cs T fr) := q1
      have ha : Addr.add ⟨b, o, none⟩ j = ⟨b, o + j, none⟩ := by cases j <;> simp [Addr.add]
      rw [ha]
      unfold World.cell?
      simp only
      rw [q1']
      rw [show o + j * 1 + 0 = o + j by omega] at q2
      simpa using q2, hk⟩
/-- string(rune(n)), of one byte -/
theorem convIS [Γ : Tab P] {s d : TypeId} {ki kd : IntKind} {n : Int} {K : Value → Prop} (h0 : 0 ≤ n) (h1 : n < 128) (hk : K (.string ⟨#[UInt8.ofNat n.toNat]⟩)) (hu : Γ.und s = some (.int ki) := by rfl) (hd : Γ.und d = some .string := by rfl) : LGet P (convert s d (.int kd n)) M K :=
  ⟨_, fun w s' => by
    have h2 := Γ.und_ok _ _ hd
    have h3 := Γ.und_ok _ _ hu
    have e : Utf8.encode n = ⟨#[UInt8.ofNat n.toNat]⟩ := by
      unfold Utf8.encode
      have hv : Utf8.valid n = true := by unfold Utf8.valid; simp; omega
      rw [hv]
      simp only [if_true]
      rw [if_pos (by omega)]
    simp [convert, run_underlying h2, run_underlying h3, Conv.intToString, e], hk⟩
end
/-! The same by short names, each with its search. -/
section
variable {P : Program} {M N : List As} {k : Value → Prop}
theorem zgs [Γ : Tab P] {t : TypeId} {kd : IntKind} {s : ByteArray} {i : Nat} (hk : k (.int .u8 ((gd s.data.toList i).toNat : Int))) (hu : Γ.und t = some .string := by rfl) (hi : i < s.size := by omega) : LGet P (Instr.index t (.string s) (.int kd (i : Int))) M k := idxStr Γ hu hi hk
theorem zHm {κ β : Type} [DecidableEq κ] {d : TypeDesc} {ek : κ → Value} {ev : β → Value} {b : Nat} {L : List (κ × β)} (h : HasMap M d ek ev b L := by repeat (first | exact HasMap.here | apply HasMap.there | apply HasMap.right)) : HasMap M d ek ev b L := h
theorem zgu [Γ : Tab P] {t kt el ty : TypeId} (hk : k (.int .i64 0)) (hu : Γ.und t = some (.map kt el) := by rfl) : LGet P (Builtin.len_ #[t] ty #[.map none]) M k := lenMap0 Γ hu hk
theorem zlk [Γ : Tab P] {β : Type} {ev : β → Value} {b : Nat} {L : List (ByteArray × β)} {t kt el : TypeId} {z : Value} {sz by' : Nat} {n : ByteArray} {x : β} (e : getL L n = some x) (hm : HasMap M .string Value.string ev b L) (hk : k (ev x)) (hu : Γ.und t = some (.map kt el) := by rfl) (hkt : Γ.und kt = some .string := by rfl) (hi : Γ.inf el = some (z, sz, by') := by rfl) :
    LGet P (Instr.lookup t (.map (some b)) (.string n) false) M k := lookup1 Γ (K := k) (by rw [e]; exact hk) keyStr hu hkt hi hm
theorem zl0 [Γ : Tab P] {β : Type} {ev : β → Value} {b : Nat} {L : List (ByteArray × β)} {t kt el : TypeId} {z : Value} {sz by' : Nat} {n : ByteArray} (e : getL L n = none) (hm : HasMap M .string Value.string ev b L) (hk : k z) (hu : Γ.und t = some (.map kt el) := by rfl) (hkt : Γ.und kt = some .string := by rfl) (hi : Γ.inf el = some (z, sz, by') := by rfl) :
    LGet P (Instr.lookup t (.map (some b)) (.string n) false) M k := lookup1 Γ (K := k) (by rw [e]; exact hk) keyStr hu hkt hi hm
theorem zln [Γ : Tab P] {t kt el : TypeId} {z : Value} {sz by' : Nat} {n : ByteArray} (hk : k z) (hu : Γ.und t = some (.map kt el) := by rfl) (hkt : Γ.und kt = some .string := by rfl) (hi : Γ.inf el = some (z, sz, by') := by rfl) :
    LGet P (Instr.lookup t (.map none) (.string n) false) M k := lookup0 Γ hk keyStr hu hkt hi
theorem zmp [Γ : Tab P] {β : Type} {ev : β → Value} {b : Nat} {L : List (ByteArray × β)} {t kt el : TypeId} {n : ByteArray} (x : β) {K : List As → Prop} (tk : Take M (MapA .string Value.string ev b L) N) (hk : K (MapA .string Value.string ev b (putL L n x) :: N)) (hu : Γ.und t = some (.map kt el) := by rfl) (hkt : Γ.und kt = some .string := by rfl) :
    LRunU P (Instr.mapUpdate t (.map (some b)) (.string n) (ev x)) M K := put1 Γ hk keyStr hu hkt tk
theorem zmd [Γ : Tab P] {β : Type} {ev : β → Value} {b : Nat} {L : List (ByteArray × β)} {t kt el ty kty : TypeId} {n : ByteArray} {K : Value → List As → Prop} (tk : Take M (MapA .string Value.string ev b L) N) (hk : K (.tuple #[]) (MapA .string Value.string ev b (delL n L) :: N)) (hu : Γ.und t = some (.map kt el) := by rfl) (hkt : Γ.und kt = some .string := by rfl) :
    LRun P (Builtin.delete_ #[t, kty] ty #[.map (some b), .string n]) M K := delMap Γ keyStr hu hkt tk hk
end
/-! The order of texts. -/
section
theorem bl_irrefl : ∀ l : List UInt8, Op.bytesLess l l = false
  | [] => rfl
  | a :: l => by simp [Op.bytesLess, bl_irrefl l]
theorem bl_trans : ∀ {a b c : List UInt8}, Op.bytesLess a b = true → Op.bytesLess b c = true → Op.bytesLess a c = true
  | _, [], _, h, _ => by cases ‹List UInt8› <;> simp [Op.bytesLess] at h
  | _, _ :: _, [], _, h => by simp [Op.bytesLess] at h
  | [], _ :: _, _ :: _, _, _ => rfl
  | x :: a, y :: b, z :: c, h, k => by
    simp only [Op.bytesLess, Bool.or_eq_true, Bool.and_eq_true, decide_eq_true_eq, beq_iff_eq] at h k ⊢
    rcases h with h | ⟨rfl, h⟩
    · rcases k with k | ⟨rfl, k⟩
      · exact .inl (UInt8.lt_trans h k)
      · exact .inl h
    · rcases k with k | ⟨rfl, k⟩
      · exact .inl k
      · exact .inr ⟨rfl, bl_trans h k⟩
theorem bl_tri : ∀ (a b : List UInt8), Op.bytesLess a b = true ∨ a = b ∨ Op.bytesLess b a = true
  | [], [] => .inr (.inl rfl)
  | [], _ :: _ => .inl rfl
  | _ :: _, [] => .inr (.inr rfl)
  | x :: a, y :: b => by
    simp only [Op.bytesLess, Bool.or_eq_true, Bool.and_eq_true, decide_eq_true_eq, beq_iff_eq]
    by_cases e : x = y
    · subst e
      rcases bl_tri a b with h | h | h
      · exact .inl (.inr ⟨rfl, h⟩)
      · exact .inr (.inl (by rw [h]))
      · exact .inr (.inr (.inr ⟨rfl, h⟩))
    · rcases Nat.lt_or_ge x.toNat y.toNat with h | h
      · exact .inl (.inl (UInt8.lt_iff_toNat_lt.2 h))
      · exact .inr (.inr (.inl (UInt8.lt_iff_toNat_lt.2 (by
          have : x.toNat ≠ y.toNat := fun h' => e (UInt8.toNat_inj.1 h')
          omega))))
def ltS (a b : ByteArray) : Bool := Op.bytesLess a.data.toList b.data.toList
theorem ltS_irrefl (a : ByteArray) : ltS a a = false := bl_irrefl _
theorem ltS_trans {a b c : ByteArray} (h : ltS a b = true) (k : ltS b c = true) : ltS a c = true := bl_trans h k
theorem ltS_asymm {a b : ByteArray} (h : ltS a b = true) : ltS b a = false := by
  cases e : ltS b a with
  | false => rfl
  | true => have := ltS_trans h e; rw [ltS_irrefl] at this; cases this
theorem ltS_ne {a b : ByteArray} (h : ltS a b = true) : a ≠ b := fun e => by subst e; rw [ltS_irrefl] at h; cases h
theorem ltS_tri (a b : ByteArray) : ltS a b = true ∨ a = b ∨ ltS b a = true := by
  rcases bl_tri a.data.toList b.data.toList with h | h | h
  · exact .inl h
  · refine .inr (.inl ?_)
    cases a; cases b
    simp only at h
    rw [Array.toList_inj.1 h]
  · exact .inr (.inr h)
variable {P : Program} {M : List As} {k : Value → Prop}
theorem gtStr {t : TypeId} {x y : Operand} {a b : ByteArray} (hk : k (.bool (ltS b a))) : LGet P (do eqGuard .gtr t x y (.string a) (.string b); binOp .gtr t (.string a) (.string b)) M k :=
  ⟨_, fun w s => by
    have e : (!(Op.bytesLess a.toList b.toList || a.toList == b.toList)) = ltS b a := by
      rw [str_beq, ByteArray.toList_eq, ByteArray.toList_eq]
      show (!(ltS a b || _)) = _
      rcases ltS_tri a b with h | h | h
      · rw [h, ltS_asymm h]; rfl
      · subst h; rw [ltS_irrefl]; simp
      · rw [h, ltS_asymm h, decide_eq_false (fun e => ltS_ne h e.symm)]; rfl
    simp only [eqGuard, binOp, Op.stringOp, e]
    rfl, hk⟩
end
end Go.Sl
