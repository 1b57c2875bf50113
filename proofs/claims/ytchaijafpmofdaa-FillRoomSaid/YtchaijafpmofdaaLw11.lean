import Derived.Test.YtchaijafpmofdaaPrI
/-! The statements of chapter 11 that ask no reference, walked. -/
namespace Go.Proofs.Ytchaijafpmofdaa
open Go.Sl
set_option linter.unusedVariables false
set_option linter.unusedSimpArgs false
set_option maxRecDepth 100000
set_option maxHeartbeats 4000000

abbrev OpT := Int × Int × Int × V4
def encOp (o : OpT) : List Value := [.int .i64 o.1, .int .i64 o.2.1, .int .i64 o.2.2.1, .int .i64 o.2.2.2.1, .int .i64 o.2.2.2.2.1, .int .i64 o.2.2.2.2.2.1, .int .i64 o.2.2.2.2.2.2]
theorem newOk_ct (c : V4) (M : List As) (h : formed c = true) : Ctr Try.prog 33 #[vv c] M (fun v M' => ∃ pb, v = .tuple #[.pointer (some ⟨pb, 0, none⟩), .int .i64 0] ∧ M' = PT pb c none 0 0 0 :: M) :=
  (new_ct c M).weaken (Ent.refl _) (fun v M' q => by rw [if_pos h] at q; exact q)
theorem newBad_ct (c : V4) (M : List As) (h : formed c = false) : Ctr Try.prog 33 #[vv c] M (fun v M' => v = .tuple #[.pointer none, .int .i64 4] ∧ M' = M) :=
  (new_ct c M).weaken (Ent.refl _) (fun v M' q => by rw [if_neg (by rw [h]; simp)] at q; exact q)
/-- What a profile is behind a take, whatever is answered. -/
def takeN (c : V4) (L : List StepT) (k : Nat) (a b : Int) (v : V4) : List StepT × Nat := if takeE c L k a b v = 0 then (lessL c L a b v, k + 1) else (L, k)
theorem PInv.takeN {c : V4} {L : List StepT} {k : Nat} {a b : Int} {v : V4} (h : PInv c L k) : PInv c (takeN c L k a b v).1 (takeN c L k a b v).2 := by
  unfold Go.Proofs.Ytchaijafpmofdaa.takeN
  split
  · rename_i q; exact h.take q
  · exact h
theorem takeN_ct (pb : Nat) (c : V4) (a : Option Addr) (cap k : Nat) (L : List StepT) (t u : Int) (v : V4) (h : PInv c L k) :
    Ctr Try.prog 35 #[.pointer (some ⟨pb, 0, none⟩), .int .i64 t, .int .i64 u, vv v] [PT pb c a L.length cap k, ERow 104 5 encStep a L.length cap L]
      (fun r M' => ∃ a' cap', r = .int .i64 (takeE c L k t u v) ∧ M' = [PT pb c a' (takeN c L k t u v).1.length cap' (takeN c L k t u v).2, ERow 104 5 encStep a' (takeN c L k t u v).1.length cap' (takeN c L k t u v).1]) :=
  (take_ct pb c a cap k L t u v (rising_iff.2 h.ris) (by have := h.len; have := h.few; omega)).weaken (Ent.refl _) (fun r M' q => by
    obtain ⟨q1, q2⟩ := q
    unfold takeN
    split at q2
    · rename_i z
      obtain ⟨a', cap', e⟩ := q2
      rw [if_pos z]
      exact ⟨a', cap', q1, e⟩
    · rename_i z
      rw [if_neg z]
      exact ⟨a, cap, q1, q2⟩)
theorem awake_take : takeE (4, 0, 0, 0) [] 0 2 5 (3, 0, 0, 0) = 0 ∧ takeN (4, 0, 0, 0) [] 0 2 5 (3, 0, 0, 0) = ([(2, 1, 0, 0, 0), (5, 4, 0, 0, 0)], 1) := by decide +kernel
theorem eqV (a b : V4) : decide ([a.1, a.2.1, a.2.2.1, a.2.2.2] = [b.1, b.2.1, b.2.2.1, b.2.2.2]) = decide (a = b) := by
  obtain ⟨a1, a2, a3, a4⟩ := a
  obtain ⟨b1, b2, b3, b4⟩ := b
  simp [Prod.ext_iff]
structure PS where
  j : Nat
  a : Option Addr
  cap : Nat
  L : List StepT
  k : Nat
end Go.Proofs.Ytchaijafpmofdaa
