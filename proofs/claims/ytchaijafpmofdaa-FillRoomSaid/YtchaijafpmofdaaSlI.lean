import Derived.Test.YtchaijafpmofdaaSlH
/-! More laws of single operations. -/
namespace Go.Sl
set_option linter.unusedVariables false
set_option linter.unusedSimpArgs false
theorem lnat {n : Int} {k : Int → Prop} (m : Nat) (hn : n = (m : Int)) (hm : m ≤ 9223372036854775807) (hk : k (m : Int)) : LInt .i64 n k := lint_i64 (m := (m : Int)) (by omega) hn hk
theorem ldiv {n : Int} {q : Prop} {k : Int → Prop} (m : Nat) (hq : q) (hn : n = (m : Int)) (hm : m ≤ 9223372036854775807) (hk : k (m : Int)) : LAnd q (LInt .i64 n k) := ⟨hq, lnat m hn hm hk⟩
theorem lmod {n : Int} {q : Prop} {k : Int → Prop} (m : Int) (hq : q) (hn : n = m) (hk : k m) : LAnd q (LEq n k) := ⟨hq, leq_ hn hk⟩
section
variable {P : Program}
/-- A cell of an array that is a value. -/
theorem index1 (Γ : Tab P) {t el : TypeId} {len i : Nat} {kd : IntKind} {z v : Value} {by' : Nat} {cs : Array Value} {M : List As} {k : Value → Prop}
    (hu : Γ.und t = some (.array len el)) (ho : oneD (Γ.und el) = true) (hi : Γ.inf el = some (z, 1, by')) (hlt : i < len) (hv : cs[i]? = some v) (hk : k v) : LGet P (Instr.index t (.agg cs) (.int kd (i : Int))) M k :=
  ⟨v, fun w s => by
    have h1 := Γ.und_ok _ _ hu
    have h2 : (part el cs (i * 1)).run P w = .ok v w := by
      unfold part
      rw [Sem.run_bind, isOne_of Γ ho]
      simp [hv]
    unfold Instr.index
    simp only [asIntOf, Sem.run_bind, Sem.run_pure, Result.andThen_ok, run_underlying h1]
    have h3 : (0 : Int) ≤ (i : Int) ∧ (i : Int) < (len : Int) := by omega
    simp only [if_pos h3, Sem.run_bind, size_of Γ hi, Result.andThen_ok, Int.toNat_natCast]
    exact h2, hk⟩
end
end Go.Sl
namespace Go.Sl
theorem beq_nat (a b : Nat) : (((a : Nat) : Int) == ((b : Nat) : Int)) = decide (a = b) := by
  by_cases e : a = b
  · subst e; simp
  · have : ¬ ((a : Nat) : Int) = ((b : Nat) : Int) := by omega
    simp [e, this]
theorem lt_nat (a b : Nat) : decide (((a : Nat) : Int) < ((b : Nat) : Int)) = decide (a < b) := by
  by_cases e : a < b
  · have : ((a : Nat) : Int) < ((b : Nat) : Int) := by omega
    simp [e]
  · have : ¬ ((a : Nat) : Int) < ((b : Nat) : Int) := by omega
    simp [e]
theorem ge_nat (a b : Nat) : decide (((a : Nat) : Int) ≥ ((b : Nat) : Int)) = decide (b ≤ a) := by
  by_cases e : b ≤ a
  · have : ((b : Nat) : Int) ≤ ((a : Nat) : Int) := by omega
    simp [e]
  · have : ¬ ((b : Nat) : Int) ≤ ((a : Nat) : Int) := by omega
    simp [e]
structure Meet (T : Prop) : Prop where
  h : T
/-- Both ways come to one place: used by 'apply'; what stands there is told by the first way's end. -/
theorem LCond.join {b : Bool} {p q T : Prop} (ht : b = true → Meet T → p) (hf : b = false → Meet T → q) (t : T) : LCond b p q := ⟨fun h => ht h ⟨t⟩, fun h => hf h ⟨t⟩⟩
section
variable {P : Program}
/-- x[:hi] of a slice. -/
theorem sliceHi (Γ : Tab P) {t el : TypeId} {kd : IntKind} {b o len cap hi : Nat} {z : Value} {sz by' : Nat} {M : List As} {k : Value → Prop} (hu : Γ.und t = some (.slice el)) (hi' : Γ.inf el = some (z, sz, by')) (hle : ∀ h, Stars M h → hi ≤ cap)
    (hk : k (.slice (some ⟨b, o, none⟩) hi cap)) : LGet P (Instr.sliceAt t (.slice (some ⟨b, o, none⟩) len cap) none (some (.int kd (hi : Int))) none) M k :=
  ⟨_, fun w s => by
    have h1 := Γ.und_ok _ _ hu
    have h3 : (0 : Int) ≤ (hi : Int) ∧ (hi : Int) ≤ (cap : Int) := by have := hle _ s; omega
    have hb : (Instr.sliceBound (.int kd (hi : Int)) cap .sliceAcap).run P w = .ok hi w := by
      simp [Instr.sliceBound, asIntOf, h3]
    have hs : (Instr.sliceBounds true len cap none (some (.int kd (hi : Int))) none).run P w = .ok (0, hi, cap) w := by
      simp [Instr.sliceBounds, hb]
    unfold Instr.sliceAt
    simp only [Sem.run_bind, run_underlying h1, Result.andThen_ok]
    unfold Instr.slice
    simp only [Sem.run_bind, run_underlying h1, Result.andThen_ok, hs, size_of Γ hi']
    simp [Addr.add], hk⟩
/-- x[lo:] of a slice. -/
theorem sliceLo (Γ : Tab P) {t el : TypeId} {kd : IntKind} {b o len cap lo : Nat} {z : Value} {sz by' : Nat} {M : List As} {k : Value → Prop} (hu : Γ.und t = some (.slice el)) (hi' : Γ.inf el = some (z, sz, by')) (hle : lo ≤ len)
    (hk : k (.slice (some ⟨b, if cap = lo then o else o + lo * sz, none⟩) (len - lo) (cap - lo))) : LGet P (Instr.sliceAt t (.slice (some ⟨b, o, none⟩) len cap) (some (.int kd (lo : Int))) none none) M k :=
  ⟨_, fun w s => by
    have h1 := Γ.und_ok _ _ hu
    have h3 : (0 : Int) ≤ (lo : Int) ∧ (lo : Int) ≤ (len : Int) := by omega
    have hb : (Instr.sliceBound (.int kd (lo : Int)) len .sliceB).run P w = .ok lo w := by
      simp [Instr.sliceBound, asIntOf, h3]
    have hs : (Instr.sliceBounds true len cap (some (.int kd (lo : Int))) none none).run P w = .ok (lo, len, cap) w := by
      simp [Instr.sliceBounds, hb]
    unfold Instr.sliceAt
    simp only [Sem.run_bind, run_underlying h1, Result.andThen_ok]
    unfold Instr.slice
    simp only [Sem.run_bind, run_underlying h1, Result.andThen_ok, hs, size_of Γ hi']
    by_cases e : cap = lo <;> simp [Addr.add, e], hk⟩
theorem Row.shrink {E : TypeId} {sz : Nat} {a : Option Addr} {n m cap : Nat} {xs : List Value} {h : Hp} (r : Row E sz a n cap xs h) (hm : m ≤ n) : Row E sz a m cap (xs.take (m * sz)) h := by
  have hl := r.1
  have hms : m * sz ≤ n * sz := Nat.mul_le_mul_right _ hm
  refine ⟨by rw [List.length_take]; omega, ?_⟩
  rcases r.2 with ⟨rfl, rfl, rfl⟩ | ⟨g, cur, rfl, hg, h2, h3, h4, h5⟩
  · exact .inl ⟨rfl, by omega, rfl⟩
  · refine .inr ⟨g, cur, rfl, hg, by omega, h3, h4, ?_⟩
    rw [← h5, List.take_take, Nat.min_eq_left hms]
theorem flat_take {α : Type} {enc : α → List Value} {sz : Nat} (he : ∀ x, (enc x).length = sz) : ∀ (xs : List α) (m : Nat), (xs.flatMap enc).take (m * sz) = (xs.take m).flatMap enc := by
  intro xs
  induction xs with
  | nil => intro m; simp
  | cons x xs ih =>
    intro m
    cases m with
    | zero => simp
    | succ m =>
      rw [List.flatMap_cons, List.take_succ_cons, List.flatMap_cons, List.take_append, ← ih m, he]
      have e1 : (m + 1) * sz - sz = m * sz := by rw [Nat.succ_mul]; omega
      have e2 : (enc x).take ((m + 1) * sz) = enc x := by rw [List.take_of_length_le]; rw [he, Nat.succ_mul]; omega
      rw [e1, e2]
theorem ERow.shrink {α : Type} {enc : α → List Value} {E : TypeId} {sz : Nat} (he : ∀ x, (enc x).length = sz) {a : Option Addr} {n m cap : Nat} {xs : List α} {M : List As} (hm : m ≤ n) : Ent (ERow E sz enc a n cap xs :: M) (ERow E sz enc a m cap (xs.take m) :: M) :=
  Ent.head (fun h r => ⟨by have := r.1; rw [List.length_take]; omega, by have := r.2.shrink hm; rwa [flat_take he] at this⟩)
theorem ERow.capLe {α : Type} {enc : α → List Value} {E : TypeId} {sz : Nat} {a : Option Addr} {n m cap : Nat} {xs : List α} {M N : List As} (tk : Take M (ERow E sz enc a n cap xs) N) (hm : m ≤ n) : ∀ h, Stars M h → m ≤ cap := fun h s => by
  obtain ⟨h1, h2, d, l1, l2, r, s⟩ := tk.h h s
  exact Nat.le_trans hm r.2.cap_le.1
end
end Go.Sl
