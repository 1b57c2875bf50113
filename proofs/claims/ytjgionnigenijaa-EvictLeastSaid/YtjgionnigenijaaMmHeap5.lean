import Derived.Test.YtjgionnigenijaaMmHeap4
/-! settle of one that is new; the ends. -/
namespace Go.Proofs.Ytjgionnigenijaa
set_option linter.unusedVariables false
set_option linter.unusedSimpArgs false
open Heap (Cond Done)

theorem pairH_vw {K : List K3} {h : HS} (w : WF K h) {i : Nat} (ha : lo i + 1 < h.A.length) :
    (∀ x, x ≠ lo i → x ≠ lo i + 1 → vw K (pairH K h i).A x = vw K h.A x) ∧ vw K (pairH K h i).A (lo i) ≤ vw K (pairH K h i).A (lo i + 1) ∧
    ((vw K (pairH K h i).A (lo i) = vw K h.A (lo i) ∧ vw K (pairH K h i).A (lo i + 1) = vw K h.A (lo i + 1)) ∨ (vw K (pairH K h i).A (lo i) = vw K h.A (lo i + 1) ∧ vw K (pairH K h i).A (lo i + 1) = vw K h.A (lo i))) := by
  unfold pairH
  by_cases hb : pairB K h i = true
  · have q := (pairB_vw w i).1 hb
    rw [if_pos hb, vw_sw (by omega) ha]
    rw [Heap.sw_same, Heap.sw_l _ _ _ (by omega)]
    refine ⟨fun x h1 h2 => Heap.sw_o _ _ _ _ h2 h1, by omega, .inr ⟨rfl, rfl⟩⟩
  · have q := mt (pairB_vw w i).2 hb
    rw [if_neg hb]
    exact ⟨fun x h1 h2 => rfl, by omega, .inl ⟨rfl, rfl⟩⟩

theorem settle_near {K : List K3} {h : HS} (w : WF K h) {i : Nat} (hi : i < h.A.length) (nr : Near (vw K h.A) h.A.length i) : Full K (settle K h i) := by
  rw [settle_eq]
  obtain ⟨a, haq⟩ : ∃ a, a = lo i := ⟨_, rfl⟩
  have hev : a % 2 = 0 := by rw [haq]; unfold lo; omega
  have hia : i = a ∨ i = a + 1 := by rw [haq]; unfold lo; omega
  have hlpi : Heap.lp i = Heap.lp a := by rw [haq]; exact (Heap.lp_lo i).symm
  by_cases ha : a + 1 < h.A.length
  · obtain ⟨u0, u1, u2⟩ := pairH_vw w (i := i) (by rw [← haq]; exact ha)
    have w0 := w.paird i
    have hl := pairH_len K h i
    rw [← haq] at u0 u1 u2
    unfold settleY
    dsimp only
    rw [← haq, hl, if_pos ha]
    generalize pairH K h i = g at *
    refine settle_pair w0 hev (by rw [hl]; exact ha) ?_ ?_ ?_ ?_ ?_ ?_
    · intro b hb hbn
      rw [hl] at hbn
      by_cases e : b = a
      · subst e; exact u1
      · rw [u0 b e (by omega), u0 (b + 1) (by omega) (by omega)]
        exact nr.P b hb hbn (by rw [← haq]; exact e)
    · intro j h2 hj n1 n2 n3
      rw [hl] at hj
      have f := Heap.lp_facts j h2
      rw [u0 j n1 n2, u0 _ n3 (by omega)]
      exact nr.L j h2 hj (by omega) (by omega)
    · intro j h2 hj n1 n2 n3
      rw [hl] at hj
      have f := Heap.lp_facts j h2
      rw [u0 j n1 n2, u0 _ (by omega) (by omega)]
      exact nr.H j h2 hj (by omega) (by omega)
    · intro h2 j j2 hj e
      rw [hl] at hj
      have f := Heap.lp_facts a h2
      have f' := Heap.lp_facts j j2
      have c := nr.C (by omega) j j2 hj (by rw [← haq]; exact e)
      rw [hlpi] at c
      rw [u0 j (by omega) (by omega), u0 _ (by omega) (by omega), u0 _ (by omega) (by omega)]
      exact c
    · rcases hia with hia | hia
      · left
        intro j j2 hj e
        rw [hl] at hj
        have f' := Heap.lp_facts j j2
        have := nr.H j j2 hj (by omega) (by omega)
        rw [e] at this
        rw [u0 j (by omega) (by omega)]
        omega
      · right
        intro j j2 hj e
        rw [hl] at hj
        have f' := Heap.lp_facts j j2
        have := nr.L j j2 hj (by omega) (by omega)
        rw [e] at this
        rw [u0 j (by omega) (by omega)]
        omega
    · intro h2
      have f := Heap.lp_facts a h2
      rw [u0 (Heap.lp a) (by omega) (by omega), u0 (Heap.lp a + 1) (by omega) (by omega)]
      rcases hia with hia | hia
      · have l1 := nr.L (a + 1) (by omega) ha (by omega) (by rw [Heap.lp_pair a hev]; omega)
        have l2 := nr.H (a + 1) (by omega) ha (by omega) (by rw [Heap.lp_pair a hev]; omega)
        rw [Heap.lp_pair a hev] at l1 l2
        rcases u2 with ⟨e1, e2⟩ | ⟨e1, e2⟩
        · right; rw [e2]; exact ⟨l1, l2⟩
        · left; rw [e1]; exact ⟨l1, l2⟩
      · have l1 := nr.L a h2 (by omega) (by omega) (by omega)
        have l2 := nr.H a h2 (by omega) (by omega) (by omega)
        rcases u2 with ⟨e1, e2⟩ | ⟨e1, e2⟩
        · left; rw [e1]; exact ⟨l1, l2⟩
        · right; rw [e2]; exact ⟨l1, l2⟩
  · have hia' : i = a := by omega
    subst hia'
    have hb : ¬ pairB K h i = true := by rw [pairB_vw w]; rw [← haq]; intro ⟨q, _⟩; exact ha q
    have hp : pairH K h i = h := by unfold pairH; rw [if_neg hb]
    dsimp only
    rw [hp]
    unfold settleY
    rw [← haq, if_neg ha]
    have ux : upZ K h (some (at_ h.A i)) = up K h i := by show up K h (at_ h.S (at_ h.A i) - 1) = _; rw [w.sp i hi]; rfl
    have hl : up K h i = upL K i h i := up_eq w (fun q => by rw [← haq] at q; exact absurd q ha)
    have ku : Kept K h (up K h i) := Kept.up w hi
    have c : Cond (vw K h.A) h.A.length i h.A.length h.A.length := by
      refine ⟨fun b hb hbn => nr.P b hb hbn (by rw [← haq]; omega), ?_, ?_, ?_, by omega, by omega, fun j h2 hj e => (Done.none (Nat.le_refl _) h2 hj e).elim, fun j h2 hj e => (Done.none (Nat.le_refl _) h2 hj e).elim⟩
      · intro j h2 hj hne _
        have f := Heap.lp_facts j h2
        exact nr.L j h2 hj hne (by omega)
      · intro j h2 hj hne _
        have f := Heap.lp_facts j h2
        exact nr.H j h2 hj hne (by omega)
      · intro _ j h2 hj e
        have f := Heap.lp_facts j h2
        rw [← lo_eq, ← haq] at e
        omega
    have d := (upL_done i w hi (Nat.le_refl _) c).1
    rw [← hl, ← ku.len] at d
    rw [ux]
    show Full K (downZ K (up K h i) (some (at_ h.A i)))
    rw [Full.downZ ku d (fun z e => by injection e with e; rw [← e]; exact ⟨i, hi, rfl⟩)]
    exact d

theorem Full.near {K : List K3} {h : HS} (w : WF K h) (d : Full K h) {i : Nat} (hi : i < h.A.length) : Near (vw K h.A) h.A.length i := by
  refine ⟨fun b hb hbn _ => d.P b hb hbn, fun j h2 hj _ _ => d.L j h2 hj (Done.none (Nat.le_refl _) h2 hj), fun j h2 hj _ _ => d.H j h2 hj (Done.none (Nat.le_refl _) h2 hj), ?_⟩
  intro h2 j j2 hj e
  have f := Heap.lp_facts j j2
  have f2 := Heap.lp_facts i h2
  have a1 := d.L j j2 hj (Done.none (Nat.le_refl _) j2 hj)
  have a2 := d.H j j2 hj (Done.none (Nat.le_refl _) j2 hj)
  rw [e] at a1 a2
  have l2 : 2 ≤ lo i := by rw [lo_eq]; omega
  have b1 := d.L (lo i) l2 (by rw [lo_eq]; omega) (Done.none (Nat.le_refl _) l2 (by rw [lo_eq]; omega))
  have e2 : Heap.lp (lo i) = Heap.lp i := Heap.lp_lo i
  have e3 : Heap.lp (lo i + 1) = Heap.lp i := by rw [Heap.lp_pair _ (by rw [lo_eq]; omega)]; exact e2
  have hn : lo i + 1 < h.A.length := by rw [lo_eq]; rw [lo_eq] at e; omega
  have b2 := d.H (lo i + 1) (by omega) hn (Done.none (Nat.le_refl _) (by omega) hn)
  rw [e2] at b1
  rw [e3] at b2
  omega

/-- The ends of a heap in order. -/
theorem Full.least {K : List K3} {h : HS} (d : Full K h) : ∀ j, j < h.A.length → vw K h.A 0 ≤ vw K h.A j := by
  intro j
  induction j using Nat.strongRecOn with
  | _ j ih =>
    intro hj
    by_cases h2 : 2 ≤ j
    · have f := Heap.lp_facts j h2
      have := ih (Heap.lp j) (by omega) (by omega)
      have := d.L j h2 hj (Done.none (Nat.le_refl _) h2 hj)
      omega
    · by_cases e : j = 0
      · subst e; omega
      · have e1 : j = 1 := by omega
        subst e1
        exact d.P 0 (by omega) hj
theorem Full.most {K : List K3} {h : HS} (d : Full K h) : ∀ j, j < h.A.length → vw K h.A j ≤ vw K h.A (min 1 (h.A.length - 1)) := by
  intro j
  induction j using Nat.strongRecOn with
  | _ j ih =>
    intro hj
    by_cases h2 : 2 ≤ j
    · have f := Heap.lp_facts j h2
      have := ih (Heap.lp j + 1) (by omega) (by omega)
      have := d.H j h2 hj (Done.none (Nat.le_refl _) h2 hj)
      omega
    · by_cases hn : h.A.length = 1
      · rw [hn]
        have e1 : j = 0 := by omega
        subst e1
        exact Int.le_refl _
      · rw [show min 1 (h.A.length - 1) = 1 from by omega]
        by_cases e : j = 0
        · subst e; exact d.P 0 (by omega) (by omega)
        · have e1 : j = 1 := by omega
          subst e1
          exact Int.le_refl _

/-- Comparing does not hang on keys of others. -/
theorem ltE_set {K : List K3} {x y z : Nat} (k : K3) (hy : y ≠ x) (hz : z ≠ x) : ltE (K.set x k) y z = ltE K y z := by
  unfold ltE key
  simp only [List.getD_eq_getElem?_getD, List.getElem?_set]
  rw [if_neg (fun e => hy e.symm), if_neg (fun e => hz e.symm)]
theorem ltE_app {K : List K3} {y z : Nat} (k : K3) (hy : y < K.length) (hz : z < K.length) : ltE (K ++ [k]) y z = ltE K y z := by
  unfold ltE key
  simp only [List.getD_eq_getElem?_getD]
  rw [List.getElem?_append_left hy, List.getElem?_append_left hz]
theorem le_iff {K : List K3} {x y : Nat} (hx : x < K.length) (hy : y < K.length) : rk K x ≤ rk K y ↔ ltE K y x = false := by
  rw [rk_iff hy hx]; simp
theorem le_set {K : List K3} {x y z : Nat} (k : K3) (hy : y < K.length) (hz : z < K.length) (n1 : y ≠ x) (n2 : z ≠ x) (h : rk K y ≤ rk K z) : rk (K.set x k) y ≤ rk (K.set x k) z := by
  rw [le_iff (by simpa using hy) (by simpa using hz), ltE_set k n2 n1]
  exact (le_iff hy hz).1 h
theorem le_app {K : List K3} {y z : Nat} (k : K3) (hy : y < K.length) (hz : z < K.length) (h : rk K y ≤ rk K z) : rk (K ++ [k]) y ≤ rk (K ++ [k]) z := by
  rw [le_iff (by simp; omega) (by simp; omega), ltE_app k hz hy]
  exact (le_iff hy hz).1 h

/-- An entry with another key. -/
theorem Full.updd {K : List K3} {h : HS} (w : WF K h) (d : Full K h) {i x : Nat} (k : K3) (hi : i < h.A.length) (hx : at_ h.A i = x) : Full (K.set x k) (settle (K.set x k) h i) := by
  have w' : WF (K.set x k) h := w.keys (by simp)
  refine settle_near w' hi ?_
  have nr := d.near w hi
  have ne : ∀ j, j < h.A.length → j ≠ i → at_ h.A j ≠ x := fun j hj hne e => hne (w.inj hj hi (e.trans hx.symm))
  have cv : ∀ j l, j < h.A.length → l < h.A.length → j ≠ i → l ≠ i → vw K h.A j ≤ vw K h.A l → vw (K.set x k) h.A j ≤ vw (K.set x k) h.A l := fun j l hj hl n1 n2 hh => le_set k (w.lt j hj) (w.lt l hl) (ne j hj n1) (ne l hl n2) hh
  refine ⟨?_, ?_, ?_, ?_⟩
  · intro b hb hbn hne
    exact cv _ _ (by omega) hbn (by intro e; subst e; rw [lo_eq, Heap.lo_even _ hb] at hne; exact hne rfl) (by intro e; subst e; rw [lo_eq, Heap.lo_odd _ hb] at hne; exact hne rfl) (nr.P b hb hbn hne)
  · intro j h2 hj n1 n2
    have f := Heap.lp_facts j h2
    exact cv _ _ (by omega) hj n2 n1 (nr.L j h2 hj n1 n2)
  · intro j h2 hj n1 n2
    have f := Heap.lp_facts j h2
    exact cv _ _ hj (by omega) n1 n2 (nr.H j h2 hj n1 n2)
  · intro h2 j j2 hj e
    have f := Heap.lp_facts i h2
    have f2 := Heap.lp_facts j j2
    have c := nr.C h2 j j2 hj e
    have hne : j ≠ i := by intro e2; subst e2; rw [lo_eq] at e; omega
    exact ⟨cv _ _ (by omega) hj (by omega) hne c.1, cv _ _ hj (by omega) hne (by omega) c.2⟩
theorem Full.upd {K : List K3} {h : HS} (o : Okh K h) (d : Full K h) (x : Int) (k : K3) : Full (updK K h x k) (updH K h x k) := by
  unfold updK updH
  split
  · exact d
  · rename_i hp
    obtain ⟨y, i, rfl, hy, hi, e1, e2, e3⟩ := o.plc hp
    rw [e3]
    exact d.updd o.wf k hi e1

/-- Without the one that stood at i. -/
theorem Full.rmd {K : List K3} {h : HS} (o : Okh K h) (d : Full K h) {i y : Nat} (hi : i < h.A.length) (hy : at_ h.A i = y) : Full K (rmH K h i y) := by
  have oc := o.cut hi hy
  have hcl := cut_len (K := K) (h := h) i y
  have hv : ∀ j, j < h.A.length - 1 → j ≠ i → vw K (cut h i y).A j = vw K h.A j := by
    intro j hj hne
    unfold vw cut
    dsimp only
    rw [at_take hj]
    show rk K (at_ (swA h.A i (h.A.length - 1)) j) = _
    rw [at_swA hi (by omega), if_neg (by omega), if_neg hne]
  have nr := d.near o.wf hi
  unfold rmH
  by_cases hl : i < h.A.length - 1
  · rw [if_pos hl]
    refine settle_near oc.wf (by rw [hcl]; exact hl) ?_
    rw [hcl]
    refine ⟨?_, ?_, ?_, ?_⟩
    · intro b hb hbn hne
      rw [hv b (by omega) (by intro e; subst e; rw [lo_eq, Heap.lo_even _ hb] at hne; exact hne rfl), hv (b + 1) hbn (by intro e; subst e; rw [lo_eq, Heap.lo_odd _ hb] at hne; exact hne rfl)]
      exact nr.P b hb (by omega) hne
    · intro j h2 hj n1 n2
      have f := Heap.lp_facts j h2
      rw [hv j hj n1, hv _ (by omega) n2]
      exact nr.L j h2 (by omega) n1 n2
    · intro j h2 hj n1 n2
      have f := Heap.lp_facts j h2
      rw [hv j hj n1, hv _ (by omega) n2]
      exact nr.H j h2 (by omega) n1 n2
    · intro h2 j j2 hj e
      have f := Heap.lp_facts i h2
      have f2 := Heap.lp_facts j j2
      have hne : j ≠ i := by intro e2; subst e2; rw [lo_eq] at e; omega
      rw [hv j hj hne, hv _ (by omega) (by omega), hv _ (by omega) (by omega)]
      exact nr.C h2 j j2 (by omega) e
  · rw [if_neg hl]
    have hv' : ∀ j, j < h.A.length - 1 → vw K (cut h i y).A j = vw K h.A j := fun j hj => hv j hj (by omega)
    unfold Full
    rw [hcl]
    refine ⟨?_, ?_, ?_, fun j h2 hj e => (Done.none (Nat.le_refl _) h2 hj e).elim, fun j h2 hj e => (Done.none (Nat.le_refl _) h2 hj e).elim⟩
    · intro b hb hbn
      rw [hv' b (by omega), hv' (b + 1) hbn]; exact d.P b hb (by omega)
    · intro j h2 hj _
      have f := Heap.lp_facts j h2
      rw [hv' j hj, hv' _ (by omega)]
      exact d.L j h2 (by omega) (Done.none (Nat.le_refl _) h2 (by omega))
    · intro j h2 hj _
      have f := Heap.lp_facts j h2
      rw [hv' j hj, hv' _ (by omega)]
      exact d.H j h2 (by omega) (Done.none (Nat.le_refl _) h2 (by omega))
theorem Full.rem {K : List K3} {h : HS} (o : Okh K h) (d : Full K h) (x : Int) : Full K (remH K h x) := by
  unfold remH
  split
  · exact d
  · rename_i hp
    obtain ⟨y, i, rfl, hy, hi, e1, e2, e3⟩ := o.plc hp
    rw [e3]
    exact d.rmd o hi e1
theorem Full.pop {K : List K3} {h : HS} (o : Okh K h) (d : Full K h) (r : Nat × K3 × Int) : Full K (popH K h r) := by
  unfold popH
  split
  · exact d.rem o _
  · exact d

/-- One more entry. -/
theorem up_near {K : List K3} {h : HS} (w : WF K h) {i : Nat} (hi : i + 1 = h.A.length) (nr : Near (vw K h.A) h.A.length i) : Full K (up K h i) := by
  have ku : Kept K h (up K h i) := Kept.up w (by omega)
  have noKids : ∀ j, 2 ≤ j → j < h.A.length → Heap.lp j ≠ lo i := by
    intro j h2 hj e
    have f := Heap.lp_facts j h2
    rw [lo_eq] at e
    unfold Heap.lo Heap.lp at e
    omega
  by_cases ha : lo i + 1 < h.A.length
  · obtain ⟨u0, u1, u2⟩ := pairH_vw w ha
    have w0 := w.paird i
    have hl := pairH_len K h i
    have hia : i = lo i + 1 := by unfold lo at *; omega
    have hodd : i % 2 = 1 := by unfold lo at hia; omega
    have hpi : pairI K h i = lo i ∨ pairI K h i = lo i + 1 := by
      unfold pairI flip
      split
      · left; omega
      · right; exact hia
    have hlp : Heap.lp (pairI K h i) = Heap.lp i := by rw [← Heap.lp_lo (pairI K h i), ← lo_eq, lo_pairI, lo_eq, Heap.lp_lo]
    have hev : lo i % 2 = 0 := by unfold lo; omega
    have hlpi : Heap.lp i = Heap.lp (lo i) := by rw [lo_eq, Heap.lp_lo]
    have partner : 2 ≤ lo i → ∀ j, (j = lo i ∨ j = lo i + 1) → j ≠ pairI K h i → vw K (pairH K h i).A (Heap.lp i) ≤ vw K (pairH K h i).A j ∧ vw K (pairH K h i).A j ≤ vw K (pairH K h i).A (Heap.lp i + 1) := by
      intro h2 j hj hne
      have f := Heap.lp_facts i (by omega)
      have l1 := nr.L (lo i) h2 (by omega) (by omega) (by rw [← hlpi]; omega)
      have l2 := nr.H (lo i) h2 (by omega) (by omega) (by rw [← hlpi]; omega)
      rw [← hlpi] at l1 l2
      rw [u0 (Heap.lp i) (by rw [lo_eq]; omega) (by rw [lo_eq]; omega), u0 (Heap.lp i + 1) (by rw [lo_eq]; omega) (by rw [lo_eq]; omega)]
      have hval : vw K (pairH K h i).A j = vw K h.A (lo i) := by
        by_cases hb : pairB K h i = true
        · have e1 : pairI K h i = lo i := by unfold pairI flip; rw [if_pos hb]; omega
          have e2 : j = lo i + 1 := by omega
          rw [e2]
          unfold pairH
          rw [if_pos hb, vw_sw (by omega) ha, Heap.sw_same]
        · have e1 : pairI K h i = i := by unfold pairI; rw [if_neg hb]
          have e2 : j = lo i := by omega
          rw [e2]
          unfold pairH
          rw [if_neg hb]
      rw [hval]; exact ⟨l1, l2⟩
    have c : Cond (vw K (pairH K h i).A) h.A.length (pairI K h i) h.A.length h.A.length := by
      refine ⟨?_, ?_, ?_, ?_, by omega, by omega, fun j h2 hj e => (Done.none (Nat.le_refl _) h2 hj e).elim, fun j h2 hj e => (Done.none (Nat.le_refl _) h2 hj e).elim⟩
      · intro b hb hbn
        by_cases e : b = lo i
        · rw [e]; exact u1
        · rw [u0 b e (by omega), u0 (b + 1) (by omega) (by omega)]; exact nr.P b hb hbn e
      · intro j h2 hj hne _
        have f := Heap.lp_facts j h2
        have k := noKids j h2 hj
        by_cases e : j = lo i ∨ j = lo i + 1
        · have e2 : Heap.lp j = Heap.lp i := by rcases e with e | e <;> rw [e, hlpi]; exact Heap.lp_pair _ hev
          rw [e2]
          exact (partner (by omega) j e hne).1
        · rw [u0 j (by omega) (by omega), u0 _ k (by omega)]
          exact nr.L j h2 hj (by omega) (by omega)
      · intro j h2 hj hne _
        have f := Heap.lp_facts j h2
        have k := noKids j h2 hj
        by_cases e : j = lo i ∨ j = lo i + 1
        · have e2 : Heap.lp j = Heap.lp i := by rcases e with e | e <;> rw [e, hlpi]; exact Heap.lp_pair _ hev
          rw [e2]
          exact (partner (by omega) j e hne).2
        · rw [u0 j (by omega) (by omega), u0 _ (by omega) (by omega)]
          exact nr.H j h2 hj (by omega) (by omega)
      · intro _ j h2 hj e
        rw [← lo_eq, lo_pairI] at e
        exact (noKids j h2 hj e).elim
    have d := (upL_done (pairI K h i) w0 (by rw [hl]; omega) (Nat.le_refl _) (by rw [hl]; exact c)).1
    rw [hl, ← ku.len] at d
    exact d
  · have hb : ¬ pairB K h i = true := by rw [pairB_vw w]; intro ⟨q, _⟩; exact ha q
    have hl : up K h i = upL K i h i := up_eq w (fun q => absurd q ha)
    have c : Cond (vw K h.A) h.A.length i h.A.length h.A.length := by
      refine ⟨fun b hb hbn => nr.P b hb hbn (by unfold lo at *; omega), ?_, ?_, ?_, by omega, by omega, fun j h2 hj e => (Done.none (Nat.le_refl _) h2 hj e).elim, fun j h2 hj e => (Done.none (Nat.le_refl _) h2 hj e).elim⟩
      · intro j h2 hj hne _
        have f := Heap.lp_facts j h2
        exact nr.L j h2 hj hne (by omega)
      · intro j h2 hj hne _
        have f := Heap.lp_facts j h2
        exact nr.H j h2 hj hne (by omega)
      · intro _ j h2 hj e
        exact (noKids j h2 hj e).elim
    have d := (upL_done i w (by omega) (Nat.le_refl _) c).1
    rw [← hl, ← ku.len] at d
    exact d
theorem Full.ins {K : List K3} {h : HS} (o : Okh K h) (d : Full K h) (k : K3) (hlt : K.length < 1048576) : Full (K ++ [k]) (insH K h k) := by
  have oa := o.add k hlt
  have hl : (addH K h).A.length = h.A.length + 1 := by simp [addH]
  unfold insH
  refine up_near oa.wf (by rw [hl]) ?_
  rw [hl]
  have ea : ∀ j, j < h.A.length → at_ (addH K h).A j = at_ h.A j := fun j hj => by show at_ (h.A ++ [K.length]) j = _; rw [at_app, if_pos hj]
  have cv : ∀ j l, j < h.A.length → l < h.A.length → vw K h.A j ≤ vw K h.A l → vw (K ++ [k]) (addH K h).A j ≤ vw (K ++ [k]) (addH K h).A l := fun j l hj hl hh => by
    unfold vw
    rw [ea j hj, ea l hl]
    exact le_app k (o.wf.lt j hj) (o.wf.lt l hl) hh
  refine ⟨?_, ?_, ?_, ?_⟩
  · intro b hb hbn hne
    have : b + 1 ≠ h.A.length := by
      intro e
      rw [← e, lo_eq, Heap.lo_odd _ hb] at hne
      exact hne rfl
    exact cv _ _ (by omega) (by omega) (d.P b hb (by omega))
  · intro j h2 hj n1 n2
    have f := Heap.lp_facts j h2
    exact cv _ _ (by omega) (by omega) (d.L j h2 (by omega) (Done.none (Nat.le_refl _) h2 (by omega)))
  · intro j h2 hj n1 n2
    have f := Heap.lp_facts j h2
    exact cv _ _ (by omega) (by omega) (d.H j h2 (by omega) (Done.none (Nat.le_refl _) h2 (by omega)))
  · intro h2 j j2 hj e
    have f := Heap.lp_facts j j2
    rw [lo_eq] at e
    unfold Heap.lo Heap.lp at e
    omega
theorem Full.h0 : Full [] h0 := ⟨fun a _ h => by simp [Go.Proofs.Ytjgionnigenijaa.h0] at h, fun j h2 hj => by simp [Go.Proofs.Ytjgionnigenijaa.h0] at hj, fun j h2 hj => by simp [Go.Proofs.Ytjgionnigenijaa.h0] at hj, fun j h2 hj => by simp [Go.Proofs.Ytjgionnigenijaa.h0] at hj, fun j h2 hj => by simp [Go.Proofs.Ytjgionnigenijaa.h0] at hj⟩
end Go.Proofs.Ytjgionnigenijaa
