import Derived.Test.YtjgionnigenijaaMmTop4
import Derived.Test.YtjgionnigenijaaMmPure
/-! The order of entries, as numbers. -/
namespace Go.Proofs.Ytjgionnigenijaa
set_option linter.unusedVariables false
set_option linter.unusedSimpArgs false

def ltE (K : List K3) (x y : Nat) : Bool := lt3 (key K x) x (key K y) y
theorem cmpI_cases (a b : Int) : (a < b ∧ cmpI a b = -1) ∨ (a = b ∧ cmpI a b = 0) ∨ (b < a ∧ cmpI a b = 1) := by
  unfold cmpI
  split
  · left; omega
  · split
    · right; right; omega
    · right; left; omega
theorem lt3_iff (k k' : K3) (a b : Nat) : lt3 k a k' b = true ↔ (k.1 < k'.1 ∨ k.1 = k'.1 ∧ (k.2.1 < k'.2.1 ∨ k.2.1 = k'.2.1 ∧ (k.2.2 < k'.2.2 ∨ k.2.2 = k'.2.2 ∧ a < b))) := by
  unfold lt3
  rw [decide_eq_true_eq]
  simp only [l3, cmpL, firstNZ]
  rcases cmpI_cases k.1 k'.1 with ⟨h1, e1⟩ | ⟨h1, e1⟩ | ⟨h1, e1⟩ <;> rcases cmpI_cases k.2.1 k'.2.1 with ⟨h2, e2⟩ | ⟨h2, e2⟩ | ⟨h2, e2⟩ <;>
    rcases cmpI_cases k.2.2 k'.2.2 with ⟨h3, e3⟩ | ⟨h3, e3⟩ | ⟨h3, e3⟩ <;> rcases cmpI_cases (a : Int) (b : Int) with ⟨h4, e4⟩ | ⟨h4, e4⟩ | ⟨h4, e4⟩ <;> simp [e1, e2, e3, e4] <;> omega
theorem ltE_irr (K : List K3) (x : Nat) : ltE K x x = false := by
  cases h : ltE K x x with
  | false => rfl
  | true => exact absurd ((lt3_iff _ _ _ _).1 h) (by omega)
theorem ltE_trans {K : List K3} {x y z : Nat} (h1 : ltE K x y = true) (h2 : ltE K y z = true) : ltE K x z = true := by
  have a := (lt3_iff _ _ _ _).1 h1
  have b := (lt3_iff _ _ _ _).1 h2
  exact (lt3_iff _ _ _ _).2 (by omega)
theorem ltE_tri (K : List K3) (x y : Nat) : ltE K x y = true ∨ x = y ∨ ltE K y x = true := by
  by_cases h : ltE K x y = true
  · exact .inl h
  · right
    by_cases e : x = y
    · exact .inl e
    · right
      apply (lt3_iff _ _ _ _).2
      have h1 := mt (lt3_iff (key K x) (key K y) x y).2 h
      omega
theorem countP_le {p q : Nat → Bool} : ∀ (l : List Nat), (∀ z ∈ l, p z = true → q z = true) → l.countP p ≤ l.countP q ∧ ((∃ z ∈ l, p z = false ∧ q z = true) → l.countP p < l.countP q) := by
  intro l
  induction l with
  | nil => intro _; simp
  | cons z l ih =>
    intro h
    obtain ⟨i1, i2⟩ := ih (fun y hy => h y (List.mem_cons_of_mem _ hy))
    have hz := h z (List.mem_cons_self ..)
    rw [List.countP_cons, List.countP_cons]
    refine ⟨?_, ?_⟩
    · cases hp : p z <;> cases hq : q z <;> simp_all <;> omega
    · rintro ⟨y, hy, h1, h2⟩
      rcases List.mem_cons.1 hy with rfl | hy
      · simp [h1, h2]; omega
      · have := i2 ⟨y, hy, h1, h2⟩
        cases hp : p z <;> cases hq : q z <;> simp_all <;> omega
/-- How many stand ahead of x. -/
def rk (K : List K3) (x : Nat) : Int := ((List.range K.length).countP (fun y => ltE K y x) : Nat)
theorem rk_lt {K : List K3} {x y : Nat} (hx : x < K.length) (h : ltE K x y = true) : rk K x < rk K y := by
  unfold rk
  have := (countP_le (p := fun z => ltE K z x) (q := fun z => ltE K z y) (List.range K.length) (fun z _ hz => ltE_trans hz h)).2 ⟨x, List.mem_range.2 hx, ltE_irr K x, h⟩
  omega
theorem rk_iff {K : List K3} {x y : Nat} (hx : x < K.length) (hy : y < K.length) : ltE K x y = decide (rk K x < rk K y) := by
  rcases ltE_tri K x y with h | rfl | h
  · rw [h]; simp [rk_lt hx h]
  · simp [ltE_irr]
  · have h1 := rk_lt hy h
    have h2 : ltE K x y = false := by
      cases h' : ltE K x y with
      | false => rfl
      | true => have := rk_lt hx h'; omega
    rw [h2]; symm; simp; omega
theorem rk_inj {K : List K3} {x y : Nat} (hx : x < K.length) (hy : y < K.length) (h : rk K x = rk K y) : x = y := by
  rcases ltE_tri K x y with h' | rfl | h'
  · have := rk_lt hx h'; omega
  · rfl
  · have := rk_lt hy h'; omega
/-- What stands at a place, as a number. -/
def vw (K : List K3) (A : List Nat) : Nat → Int := fun i => rk K (at_ A i)
theorem ltP_vw {K : List K3} {h : HS} (w : WF K h) {i j : Nat} (hi : i < h.A.length) (hj : j < h.A.length) : ltP K h.A i j = decide (vw K h.A i < vw K h.A j) := rk_iff (w.lt i hi) (w.lt j hj)
theorem vw_sw {K : List K3} {h : HS} {i j : Nat} (hi : i < h.A.length) (hj : j < h.A.length) : vw K (swp h i j).A = Heap.sw (vw K h.A) i j := by
  funext k
  show rk K (at_ (swA h.A i j) k) = _
  rw [at_swA hi hj]
  unfold Heap.sw vw
  split
  · rfl
  · split <;> rfl

open Heap (Cond Done)
theorem lp_eq (i : Nat) : (i / 2 - 1) / 2 * 2 = Heap.lp i := rfl
theorem lo_eq (i : Nat) : lo i = Heap.lo i := rfl
theorem upL_done {K : List K3} : ∀ (f : Nat) {h : HS} {i dl dh : Nat}, WF K h → i < h.A.length → i ≤ f → Cond (vw K h.A) h.A.length i dl dh →
    Done (vw K (upL K f h i).A) h.A.length dl dh ∧ (dl < h.A.length → at_ (upL K f h i).A dl = at_ h.A dl) ∧ (dh + 1 < h.A.length → dh < h.A.length → at_ (upL K f h i).A (dh + 1) = at_ h.A (dh + 1)) := by
  intro f
  induction f with
  | zero => intro h i dl dh w hi hf c; exact ⟨c.done (by omega), fun _ => rfl, fun _ _ => rfl⟩
  | succ f ih =>
    intro h i dl dh w hi hf c
    unfold upL
    rw [lp_eq]
    split
    · exact ⟨c.done (by omega), fun _ => rfl, fun _ _ => rfl⟩
    · rename_i h2
      have g := Heap.lp_facts i (by omega)
      rw [ltP_vw w hi (by omega), ltP_vw w (by omega) hi]
      split
      · rename_i hv
        have hv' : vw K h.A i < vw K h.A (Heap.lp i) := by simpa using hv
        have c' := Heap.stepL c (by omega) hi hv'
        rw [← vw_sw hi (by omega)] at c'
        have hl : (swp h i (Heap.lp i)).A.length = h.A.length := swA_len _ _ _
        have r := ih (i := Heap.lp i) (dl := dl) (dh := dh) (w.swpd hi (j := Heap.lp i) (by omega)) (by rw [hl]; omega) (by omega) (by rw [hl]; exact c')
        rw [hl] at r
        refine ⟨r.1, fun hd => ?_, fun hd hd' => ?_⟩
        · rw [r.2.1 hd]
          show at_ (swA h.A i (Heap.lp i)) dl = _
          have d := c.dl1 hd
          have d' := c'.dl1 hd
          omega
        · rw [r.2.2 hd hd']
          show at_ (swA h.A i (Heap.lp i)) (dh + 1) = _
          have d := c.dh1 hd'
          rw [at_swA hi (by omega), if_neg (by omega), if_neg (by omega)]
      · rename_i hnv
        split
        · rename_i hv
          have hv' : vw K h.A (Heap.lp i + 1) < vw K h.A i := by simpa using hv
          have c' := Heap.stepH c (by omega) hi (by simpa using hnv) hv'
          rw [← vw_sw hi (by omega)] at c'
          have hl : (swp h i (Heap.lp i + 1)).A.length = h.A.length := swA_len _ _ _
          have r := ih (i := Heap.lp i + 1) (dl := dl) (dh := dh) (w.swpd hi (j := Heap.lp i + 1) (by omega)) (by rw [hl]; omega) (by omega) (by rw [hl]; exact c')
          rw [hl] at r
          refine ⟨r.1, fun hd => ?_, fun hd hd' => ?_⟩
          · rw [r.2.1 hd]
            show at_ (swA h.A i (Heap.lp i + 1)) dl = _
            have d := c.dl1 hd
            rw [at_swA hi (by omega), if_neg (by omega), if_neg (by omega)]
          · exfalso
            have d := c.dh1 hd'
            have d' := c'.dh1 hd'
            omega
        · rename_i hnh
          exact ⟨c.done (fun _ => ⟨by simpa using hnv, by simpa using hnh⟩), fun _ => rfl, fun _ _ => rfl⟩
end Go.Proofs.Ytjgionnigenijaa
