import Derived.Test.YtjgionnigenijaaMmHeap
/-! down, and what does nothing. -/
namespace Go.Proofs.Ytjgionnigenijaa
set_option linter.unusedVariables false
set_option linter.unusedSimpArgs false
open Heap (Cond Done)

theorem pairB_vw {K : List K3} {h : HS} (w : WF K h) (i : Nat) : pairB K h i = true ↔ lo i + 1 < h.A.length ∧ vw K h.A (lo i + 1) < vw K h.A (lo i) := by
  unfold pairB
  by_cases e : lo i + 1 < h.A.length
  · rw [ltP_vw w e (by omega)]; simp [e]
  · simp [e]
theorem up_noop {K : List K3} {h : HS} (w : WF K h) {i : Nat} (hi : i < h.A.length) (hp : lo i + 1 < h.A.length → vw K h.A (lo i) ≤ vw K h.A (lo i + 1)) (h2 : 2 ≤ i → vw K h.A (Heap.lp i) ≤ vw K h.A i ∧ vw K h.A i ≤ vw K h.A (Heap.lp i + 1)) : up K h i = h := by
  have hb : ¬ pairB K h i = true := by rw [pairB_vw w]; intro ⟨a, b⟩; have := hp a; omega
  unfold up pairH pairI
  rw [if_neg hb, if_neg hb]
  cases i with
  | zero => rfl
  | succ i =>
    unfold upL
    rw [lp_eq]
    split
    · rfl
    · rename_i hge
      have g := Heap.lp_facts (i + 1) (by omega)
      have := h2 (by omega)
      rw [ltP_vw w hi (by omega), ltP_vw w (by omega) hi, if_neg (by simp; omega), if_neg (by simp; omega)]
theorem up_eq {K : List K3} {h : HS} (w : WF K h) {i : Nat} (hp : lo i + 1 < h.A.length → vw K h.A (lo i) ≤ vw K h.A (lo i + 1)) : up K h i = upL K i h i := by
  have hb : ¬ pairB K h i = true := by rw [pairB_vw w]; intro ⟨a, b⟩; have := hp a; omega
  unfold up pairH pairI
  rw [if_neg hb, if_neg hb]

/-- The better one of b and the child c, by numbers. -/
theorem bst_vw {K : List K3} {h : HS} (w : WF K h) {high : Bool} {b c c' : Nat} (hb : b < h.A.length) (hc : c' = if high && decide (c + 1 < h.A.length) then c + 1 else c) :
    (h.A.length ≤ c' ∧ bst K h.A high b c = b) ∨ (c' < h.A.length ∧ high = false ∧ ((vw K h.A c' < vw K h.A b ∧ bst K h.A high b c = c') ∨ (vw K h.A b ≤ vw K h.A c' ∧ bst K h.A high b c = b))) ∨
    (c' < h.A.length ∧ high = true ∧ ((vw K h.A b < vw K h.A c' ∧ bst K h.A high b c = c') ∨ (vw K h.A c' ≤ vw K h.A b ∧ bst K h.A high b c = b))) := by
  rw [bst_eq hc]
  by_cases h1 : h.A.length ≤ c'
  · left; exact ⟨h1, if_pos h1⟩
  · right
    rw [if_neg h1]
    cases high with
    | false =>
      left
      refine ⟨by omega, rfl, ?_⟩
      simp only [Bool.false_eq_true, if_false]
      rw [ltP_vw w (by omega) hb]
      by_cases e : vw K h.A c' < vw K h.A b
      · left; exact ⟨e, by simp [e]⟩
      · right; exact ⟨by omega, by simp [e]⟩
    | true =>
      right
      refine ⟨by omega, rfl, ?_⟩
      simp only [if_true]
      rw [ltP_vw w hb (by omega)]
      by_cases e : vw K h.A b < vw K h.A c'
      · left; exact ⟨e, by simp [e]⟩
      · right; exact ⟨by omega, by simp [e]⟩
theorem best_low {K : List K3} {h : HS} (w : WF K h) {i : Nat} (hi : i < h.A.length) (hev : i % 2 = 0) {b : Nat} (hb : best K h.A false i = b) :
    (b = i ∨ ((b = 2 * i + 2 ∨ b = 2 * i + 4) ∧ b < h.A.length ∧ vw K h.A b < vw K h.A i)) ∧ (2 * i + 2 < h.A.length → vw K h.A b ≤ vw K h.A (2 * i + 2)) ∧ (2 * i + 4 < h.A.length → vw K h.A b ≤ vw K h.A (2 * i + 4)) := by
  unfold best at hb
  rw [show i / 2 * 4 + 2 = 2 * i + 2 from by omega, show i / 2 * 4 + 4 = 2 * i + 4 from by omega] at hb
  have b1 := bst_lt (K := K) (high := false) (c := 2 * i + 2) hi
  rcases bst_vw w (high := false) (c := 2 * i + 2) (c' := 2 * i + 2) hi (by simp) with ⟨a1, e1⟩ | ⟨a1, _, ⟨l1, e1⟩ | ⟨l1, e1⟩⟩ | ⟨_, x, _⟩ <;>
  first
  | cases x
  | (rcases bst_vw w (high := false) (c := 2 * i + 4) (c' := 2 * i + 4) b1 (by simp) with ⟨a2, e2⟩ | ⟨a2, _, ⟨l2, e2⟩ | ⟨l2, e2⟩⟩ | ⟨_, x, _⟩ <;>
     first
     | cases x
     | (rw [e1] at e2 b1; rw [e1] at hb; rw [hb] at e2; subst e2; first | (rw [e1] at l2; refine ⟨?_, ?_, ?_⟩ <;> omega) | (refine ⟨?_, ?_, ?_⟩ <;> omega)))
theorem best_high {K : List K3} {h : HS} (w : WF K h) {a : Nat} (hi : a + 1 < h.A.length) (hev : a % 2 = 0) {b : Nat} (hb : best K h.A true (a + 1) = b) :
    (b = a + 1 ∨ (2 ≤ b ∧ Heap.lp b = a ∧ (b % 2 = 1 ∨ b + 1 = h.A.length) ∧ b < h.A.length ∧ vw K h.A (a + 1) < vw K h.A b)) ∧ (∀ j, 2 ≤ j → j < h.A.length → Heap.lp j = a → (j % 2 = 1 ∨ j + 1 = h.A.length) → vw K h.A j ≤ vw K h.A b) := by
  unfold best at hb
  rw [show (a + 1) / 2 * 4 + 2 = 2 * a + 2 from by omega, show (a + 1) / 2 * 4 + 4 = 2 * a + 4 from by omega] at hb
  have b1 := bst_lt (K := K) (high := true) (c := 2 * a + 2) hi
  obtain ⟨c1, hc1⟩ : ∃ c1, c1 = if true && decide (2 * a + 2 + 1 < h.A.length) then 2 * a + 2 + 1 else 2 * a + 2 := ⟨_, rfl⟩
  obtain ⟨c2, hc2⟩ : ∃ c2, c2 = if true && decide (2 * a + 4 + 1 < h.A.length) then 2 * a + 4 + 1 else 2 * a + 4 := ⟨_, rfl⟩
  have s1 := bst_vw w hi hc1
  have s2 := bst_vw w b1 hc2
  have k1 : (c1 = 2 * a + 3 ∧ 2 * a + 3 < h.A.length) ∨ (c1 = 2 * a + 2 ∧ ¬ 2 * a + 3 < h.A.length) := by
    by_cases e : 2 * a + 2 + 1 < h.A.length
    · left; simp [e] at hc1; omega
    · right; simp [e] at hc1; omega
  have k2 : (c2 = 2 * a + 5 ∧ 2 * a + 5 < h.A.length) ∨ (c2 = 2 * a + 4 ∧ ¬ 2 * a + 5 < h.A.length) := by
    by_cases e : 2 * a + 4 + 1 < h.A.length
    · left; simp [e] at hc2; omega
    · right; simp [e] at hc2; omega
  have p1 : Heap.lp c1 = a ∧ (c1 < h.A.length → c1 % 2 = 1 ∨ c1 + 1 = h.A.length) := by unfold Heap.lp; omega
  have p2 : Heap.lp c2 = a ∧ (c2 < h.A.length → c2 % 2 = 1 ∨ c2 + 1 = h.A.length) := by unfold Heap.lp; omega
  have all : ∀ j, 2 ≤ j → j < h.A.length → Heap.lp j = a → (j % 2 = 1 ∨ j + 1 = h.A.length) → j = c1 ∨ j = c2 := by
    intro j h2 hj e hp
    unfold Heap.lp at e
    omega
  generalize bst K h.A true (a + 1) (2 * a + 2) = m at *
  rw [hb] at s2
  have fin : (b = a + 1 ∨ (b = c1 ∧ c1 < h.A.length ∧ vw K h.A (a + 1) < vw K h.A b) ∨ (b = c2 ∧ c2 < h.A.length ∧ vw K h.A (a + 1) < vw K h.A b)) ∧ (c1 < h.A.length → vw K h.A c1 ≤ vw K h.A b) ∧ (c2 < h.A.length → vw K h.A c2 ≤ vw K h.A b) := by
    rcases s1 with ⟨a1, rfl⟩ | ⟨_, x, _⟩ | ⟨a1, _, ⟨l1, rfl⟩ | ⟨l1, rfl⟩⟩
    · rcases s2 with ⟨a2, rfl⟩ | ⟨_, x, _⟩ | ⟨a2, _, ⟨l2, rfl⟩ | ⟨l2, rfl⟩⟩
      · exact ⟨.inl rfl, by omega, by omega⟩
      · cases x
      · exact ⟨.inr (.inr ⟨rfl, a2, l2⟩), by omega, by omega⟩
      · exact ⟨.inl rfl, by omega, fun _ => l2⟩
    · cases x
    · rcases s2 with ⟨a2, rfl⟩ | ⟨_, x, _⟩ | ⟨a2, _, ⟨l2, rfl⟩ | ⟨l2, rfl⟩⟩
      · exact ⟨.inr (.inl ⟨rfl, a1, l1⟩), by omega, by omega⟩
      · cases x
      · exact ⟨.inr (.inr ⟨rfl, a2, by omega⟩), by omega, by omega⟩
      · exact ⟨.inr (.inl ⟨rfl, a1, l1⟩), by omega, fun _ => l2⟩
    · rcases s2 with ⟨a2, rfl⟩ | ⟨_, x, _⟩ | ⟨a2, _, ⟨l2, rfl⟩ | ⟨l2, rfl⟩⟩
      · exact ⟨.inl rfl, fun _ => l1, by omega⟩
      · cases x
      · exact ⟨.inr (.inr ⟨rfl, a2, l2⟩), by omega, by omega⟩
      · exact ⟨.inl rfl, fun _ => l1, fun _ => l2⟩
  refine ⟨?_, ?_⟩
  · rcases fin.1 with h1 | ⟨h1, h2, h3⟩ | ⟨h1, h2, h3⟩
    · exact .inl h1
    · subst h1; exact .inr ⟨by omega, p1.1, p1.2 h2, h2, h3⟩
    · subst h1; exact .inr ⟨by omega, p2.1, p2.2 h2, h2, h3⟩
  · intro j h2 hj e hp
    rcases all j h2 hj e hp with rfl | rfl
    · exact fin.2.1 hj
    · exact fin.2.2 hj
end Go.Proofs.Ytjgionnigenijaa
