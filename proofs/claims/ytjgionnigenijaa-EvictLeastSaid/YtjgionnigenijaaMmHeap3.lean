import Derived.Test.YtjgionnigenijaaMmHeap2
/-! The way down. -/
namespace Go.Proofs.Ytjgionnigenijaa
set_option linter.unusedVariables false
set_option linter.unusedSimpArgs false
open Heap (Cond Done)

/-- A round of the way down, on numbers. -/
theorem fix_vw {K : List K3} {h : HS} (w : WF K h) {i b : Nat} (hi : i < h.A.length) (hb : b < h.A.length) (hne : b ≠ i) :
    ∃ u, vw K (fixP K (swp h i b) b).A = u ∧ ((lo b + 1 < h.A.length ∧ Heap.sw (vw K h.A) i b (lo b + 1) < Heap.sw (vw K h.A) i b (lo b) ∧ u = Heap.sw (Heap.sw (vw K h.A) i b) (lo b) (lo b + 1)) ∨
      ((lo b + 1 < h.A.length → Heap.sw (vw K h.A) i b (lo b) ≤ Heap.sw (vw K h.A) i b (lo b + 1)) ∧ u = Heap.sw (vw K h.A) i b)) := by
  have w1 := w.swpd hi hb
  have hl : (swp h i b).A.length = h.A.length := swA_len _ _ _
  have e1 : vw K (swp h i b).A = Heap.sw (vw K h.A) i b := vw_sw hi hb
  refine ⟨_, rfl, ?_⟩
  unfold fixP
  by_cases hp : pairB K (swp h i b) b = true
  · left
    have q := (pairB_vw w1 b).1 hp
    rw [hl, e1] at q
    refine ⟨q.1, q.2, ?_⟩
    rw [if_pos hp, vw_sw (by rw [hl]; omega) (by rw [hl]; omega), e1]
  · right
    refine ⟨?_, by rw [if_neg hp, e1]⟩
    intro hlt
    have q := mt (pairB_vw w1 b).2 hp
    rw [hl, e1] at q
    omega
theorem downL_low {K : List K3} : ∀ (f : Nat) {h : HS} {i : Nat}, WF K h → i < h.A.length → i % 2 = 0 → h.A.length - i ≤ f → Done (vw K h.A) h.A.length i h.A.length →
    Done (vw K (downL K false f h i).A) h.A.length h.A.length h.A.length := by
  intro f
  induction f with
  | zero => intro h i w hi hev hf d; omega
  | succ f ih =>
    intro h i w hi hev hf d
    rw [downL]
    obtain ⟨b, hb⟩ : ∃ b, best K h.A false i = b := ⟨_, rfl⟩
    rw [hb]
    have bl := best_low w hi hev hb
    by_cases e : b = i
    · rw [if_pos e]
      refine ⟨d.P, ?_, d.H, fun j h2 hj e2 _ => (Done.none (Nat.le_refl _) h2 hj e2).elim, d.CH⟩
      intro j h2 hj _
      by_cases e2 : Heap.lp j = i
      · rw [e2]
        rw [e] at bl
        have : j = 2 * i + 2 ∨ j = 2 * i + 3 ∨ j = 2 * i + 4 ∨ j = 2 * i + 5 := by unfold Heap.lp at e2; omega
        rcases this with rfl | rfl | rfl | rfl
        · exact bl.2.1 hj
        · have := bl.2.1 (by omega)
          have q : vw K h.A (2 * i + 2) ≤ vw K h.A (2 * i + 3) := d.P (2 * i + 2) (by omega) (by omega)
          omega
        · exact bl.2.2 hj
        · have := bl.2.2 (by omega)
          have q : vw K h.A (2 * i + 4) ≤ vw K h.A (2 * i + 5) := d.P (2 * i + 4) (by omega) (by omega)
          omega
      · exact d.L j h2 hj e2
    · rw [if_neg e]
      rcases bl.1 with e' | ⟨hc, hbn, hlt⟩
      · exact (e e').elim
      · have lob : lo b = b := by unfold lo; omega
        obtain ⟨u, hu, hcase⟩ := fix_vw w hi hbn e
        have hl2 : (fixP K (swp h i b) b).A.length = h.A.length := by rw [((w.swpd hi hbn).fixPd b).2]; exact swA_len _ _ _
        have d' : Done u h.A.length b h.A.length := by
          rw [lob] at hcase
          have s1 := Heap.sw_same (vw K h.A) i b
          have s2 := Heap.sw_l (vw K h.A) i b (by omega)
          have s3 := Heap.sw_o (vw K h.A) i b
          have s4 : Heap.sw (vw K h.A) i b (b + 1) = vw K h.A (b + 1) := s3 _ (by omega) (by omega)
          rcases hcase with ⟨q1, q2, q3⟩ | ⟨q1, q3⟩
          · rw [s1, s4] at q2
            refine Heap.stepDL d (Nat.le_refl _) hev hc hbn hlt bl.2.1 bl.2.2 ?_ ?_ (.inl ⟨q1, q2, ?_, ?_⟩)
            · intro x n1 n2 n3; rw [q3, Heap.sw_o _ _ _ _ n3 n2, s3 x n2 n1]
            · rw [q3, Heap.sw_o _ _ _ _ (by omega) (by omega), s2]
            · rw [q3, Heap.sw_l _ _ _ (by omega), s4]
            · rw [q3, Heap.sw_same, s1]
          · rw [s1, s4] at q1
            refine Heap.stepDL d (Nat.le_refl _) hev hc hbn hlt bl.2.1 bl.2.2 ?_ ?_ (.inr ⟨q1, ?_, ?_⟩)
            · intro x n1 n2 n3; rw [q3, s3 x n2 n1]
            · rw [q3, s2]
            · rw [q3, s1]
            · rw [q3, s4]
        rw [← hu, ← hl2] at d'
        have r := ih (i := b) ((w.swpd hi hbn).fixPd b).1 (by rw [hl2]; exact hbn) (by omega) (by rw [hl2]; omega) d'
        rw [hl2] at r
        exact r
theorem downL_high {K : List K3} : ∀ (f : Nat) {h : HS} {i : Nat}, WF K h → i < h.A.length → (i % 2 = 1 ∨ i + 1 = h.A.length) → h.A.length - i ≤ f → Done (vw K h.A) h.A.length h.A.length (lo i) →
    Done (vw K (downL K true f h i).A) h.A.length h.A.length h.A.length := by
  intro f
  induction f with
  | zero => intro h i w hi hev hf d; omega
  | succ f ih =>
    intro h i w hi hev hf d
    have noKids : i % 2 = 0 → ∀ j, j < h.A.length → 2 ≤ j → Heap.lp j ≠ lo i := by
      intro h0 j hj h2; unfold Heap.lp lo; omega
    by_cases hodd : i % 2 = 1
    · obtain ⟨a, rfl⟩ : ∃ a, i = a + 1 := ⟨i - 1, by omega⟩
      have hlo : lo (a + 1) = a := by unfold lo; omega
      rw [hlo] at d
      rw [downL]
      obtain ⟨b, hb⟩ : ∃ b, best K h.A true (a + 1) = b := ⟨_, rfl⟩
      rw [hb]
      have bl := best_high w hi (by omega) hb
      by_cases e : b = a + 1
      · rw [if_pos e]
        refine ⟨d.P, d.L, ?_, d.CL, fun j h2 hj e2 _ => (Done.none (Nat.le_refl _) h2 hj e2).elim⟩
        intro j h2 hj _
        by_cases e2 : Heap.lp j = a
        · rw [e2]
          rw [e] at bl
          by_cases hp : j % 2 = 1 ∨ j + 1 = h.A.length
          · exact bl.2 j h2 hj e2 hp
          · have h1 := bl.2 (j + 1) (by omega) (by omega) (by rw [Heap.lp_pair j (by omega)]; exact e2) (by omega)
            have h3 := d.P j (by omega) (by omega)
            omega
        · exact d.H j h2 hj e2
      · rw [if_neg e]
        rcases bl.1 with e' | ⟨hb2, hlp, hbo, hbn, hlt⟩
        · exact (e e').elim
        · obtain ⟨u, hu, hcase⟩ := fix_vw w hi hbn e
          have hl2 : (fixP K (swp h (a + 1) b) b).A.length = h.A.length := by rw [((w.swpd hi hbn).fixPd b).2]; exact swA_len _ _ _
          have g := Heap.lp_facts b hb2
          rw [← lo_eq] at g
          have d' : Done u h.A.length h.A.length (lo b) := by
            have s1 := Heap.sw_same (vw K h.A) (a + 1) b
            have s2 := Heap.sw_l (vw K h.A) (a + 1) b (by omega)
            have s3 := Heap.sw_o (vw K h.A) (a + 1) b
            by_cases hb1 : b % 2 = 1
            · have lb : lo b + 1 = b := by unfold lo; omega
              have s4 : Heap.sw (vw K h.A) (a + 1) b (lo b) = vw K h.A (lo b) := s3 _ (by omega) (by omega)
              have s5 : Heap.sw (vw K h.A) (a + 1) b (lo b + 1) = vw K h.A (a + 1) := by rw [lb]; exact s1
              rcases hcase with ⟨q1, q2, q3⟩ | ⟨q1, q3⟩
              · rw [s4, s5] at q2
                refine Heap.stepDH (b := b) d (Nat.le_refl _) (by omega) hlp hb2 hbn hbo hlt bl.2 ?_ ?_ (.inl ⟨hb1, .inl ⟨q2, ?_, ?_⟩⟩)
                · intro x n1 n2 n3
                  rw [← lo_eq] at n2 n3
                  rw [q3, Heap.sw_o _ _ _ _ n3 n2, s3 x (by omega) n1]
                · rw [q3, Heap.sw_o _ _ _ _ (by omega) (by omega), s2]
                · rw [← lo_eq, q3, Heap.sw_l _ _ _ (by omega), s5]
                · rw [← lo_eq, q3, Heap.sw_same, s4]
              · have q1 := q1 (by omega)
                rw [s4, s5] at q1
                refine Heap.stepDH (b := b) d (Nat.le_refl _) (by omega) hlp hb2 hbn hbo hlt bl.2 ?_ ?_ (.inl ⟨hb1, .inr ⟨q1, ?_, ?_⟩⟩)
                · intro x n1 n2 n3
                  rw [← lo_eq] at n2 n3
                  rw [q3, s3 x (by omega) n1]
                · rw [q3, s2]
                · rw [← lo_eq, q3, s4]
                · rw [← lo_eq, q3, s5]
            · have lb : lo b = b := by unfold lo; omega
              rcases hcase with ⟨q1, q2, q3⟩ | ⟨q1, q3⟩
              · omega
              · refine Heap.stepDH (b := b) d (Nat.le_refl _) (by omega) hlp hb2 hbn hbo hlt bl.2 ?_ ?_ (.inr ⟨by omega, ?_⟩)
                · intro x n1 n2 n3
                  rw [← lo_eq] at n2 n3
                  rw [q3, s3 x (by omega) n1]
                · rw [q3, s2]
                · rw [q3, s1]
          rw [← hu, ← hl2] at d'
          have r := ih (i := b) ((w.swpd hi hbn).fixPd b).1 (by rw [hl2]; exact hbn) (by rw [hl2]; exact hbo) (by rw [hl2]; omega) d'
          rw [hl2] at r
          exact r
    · have d0 : Done (vw K h.A) h.A.length h.A.length h.A.length := ⟨d.P, d.L, fun j h2 hj _ => d.H j h2 hj (noKids (by omega) j hj h2), d.CL, fun j h2 hj e2 _ => (Done.none (Nat.le_refl _) h2 hj e2).elim⟩
      have hb : best K h.A true i = i := by
        unfold best bst
        dsimp only
        have e1 : ¬ (i / 2 * 4 + 2 + 1 < h.A.length) := by omega
        have e2 : ¬ (i / 2 * 4 + 4 + 1 < h.A.length) := by omega
        have e4 : h.A.length ≤ i / 2 * 4 + 2 := by omega
        have e5 : h.A.length ≤ i / 2 * 4 + 4 := by omega
        simp [e1, e2, e4, e5]
      rw [downL, hb, if_pos rfl]
      exact d0
end Go.Proofs.Ytjgionnigenijaa
