import Derived.Test.YtjgionnigenijaaMmHeap3
/-! settle, insertion, and the ends. -/
namespace Go.Proofs.Ytjgionnigenijaa
set_option linter.unusedVariables false
set_option linter.unusedSimpArgs false
open Heap (Cond Done)

/-- All is in order but for what stands at i, whose neighbours bear its absence. -/
structure Near (v : Nat → Int) (n i : Nat) : Prop where
  P : ∀ a, a % 2 = 0 → a + 1 < n → a ≠ lo i → v a ≤ v (a + 1)
  L : ∀ j, 2 ≤ j → j < n → j ≠ i → Heap.lp j ≠ i → v (Heap.lp j) ≤ v j
  H : ∀ j, 2 ≤ j → j < n → j ≠ i → Heap.lp j + 1 ≠ i → v j ≤ v (Heap.lp j + 1)
  C : 2 ≤ i → ∀ j, 2 ≤ j → j < n → Heap.lp j = lo i → v (Heap.lp i) ≤ v j ∧ v j ≤ v (Heap.lp i + 1)
abbrev Full (K : List K3) (h : HS) : Prop := Done (vw K h.A) h.A.length h.A.length h.A.length

theorem down_low {K : List K3} {h : HS} (w : WF K h) {i : Nat} (hi : i < h.A.length) (hev : i % 2 = 0) (d : Done (vw K h.A) h.A.length i h.A.length) : Full K (down K h i) := by
  have hk := Kept.down w hi
  have hl := hk.len
  unfold down at hl ⊢
  rw [show decide (i % 2 = 1) = false from by simp; omega] at hl ⊢
  have := downL_low (h.A.length - i) w hi hev (Nat.le_refl _) d
  unfold Full
  rw [hl]; exact this
theorem down_high {K : List K3} {h : HS} (w : WF K h) {i : Nat} (hi : i < h.A.length) (hodd : i % 2 = 1) (d : Done (vw K h.A) h.A.length h.A.length (lo i)) : Full K (down K h i) := by
  have hk := Kept.down w hi
  have hl := hk.len
  unfold down at hl ⊢
  rw [show decide (i % 2 = 1) = true from by simp; omega] at hl ⊢
  have := downL_high (h.A.length - i) w hi (.inl hodd) (Nat.le_refl _) d
  unfold Full
  rw [hl]; exact this
theorem down_noop {K : List K3} {h : HS} (w : WF K h) {i : Nat} (hi : i < h.A.length) (hlow : i % 2 = 0 → ∀ j, 2 ≤ j → j < h.A.length → Heap.lp j = i → vw K h.A i ≤ vw K h.A j) (hhigh : i % 2 = 1 → ∀ j, 2 ≤ j → j < h.A.length → Heap.lp j = lo i → vw K h.A j ≤ vw K h.A i) : down K h i = h := by
  unfold down
  obtain ⟨f, hf⟩ : ∃ f, h.A.length - i = f + 1 := ⟨h.A.length - i - 1, by omega⟩
  rw [hf]
  by_cases hev : i % 2 = 0
  · rw [show decide (i % 2 = 1) = false from by simp; omega, downL]
    have bl := (best_low w hi hev rfl).1
    rw [if_pos]
    rcases bl with e | ⟨hc, hb, hlt⟩
    · exact e
    · have := hlow hev (best K h.A false i) (by omega) hb (by unfold Heap.lp; omega)
      omega
  · obtain ⟨a, rfl⟩ : ∃ a, i = a + 1 := ⟨i - 1, by omega⟩
    rw [show decide ((a + 1) % 2 = 1) = true from by simp; omega, downL]
    have bl := (best_high w hi (by omega) rfl).1
    rw [if_pos]
    rcases bl with e | ⟨h2, hlp, _, hb, hlt⟩
    · exact e
    · have := hhigh (by omega) (best K h.A true (a + 1)) h2 hb (by rw [hlp]; unfold lo; omega)
      omega
theorem Full.down {K : List K3} {h : HS} (w : WF K h) (d : Full K h) {i : Nat} (hi : i < h.A.length) : down K h i = h :=
  down_noop w hi (fun hev j h2 hj e => by have := d.L j h2 hj (Done.none (Nat.le_refl _) h2 hj); rwa [e] at this)
    (fun hodd j h2 hj e => by have := d.H j h2 hj (Done.none (Nat.le_refl _) h2 hj); rwa [e, show lo i + 1 = i from by unfold lo; omega] at this)
theorem Full.up {K : List K3} {h : HS} (w : WF K h) (d : Full K h) {i : Nat} (hi : i < h.A.length) : up K h i = h :=
  up_noop w hi (fun hlt => d.P (lo i) (by unfold lo; omega) hlt) (fun h2 => ⟨d.L i h2 hi (Done.none (Nat.le_refl _) h2 hi), d.H i h2 hi (Done.none (Nat.le_refl _) h2 hi)⟩)
/-- Whatever entry of a heap in order is brought up or down, it stays. -/
theorem Full.upZ {K : List K3} {h h0 : HS} (k : Kept K h0 h) (d : Full K h) {z : Option Nat} (hz : ∀ x, z = some x → In h0 x) : upZ K h z = h := by
  cases z with
  | none => rfl
  | some z => exact Full.up k.wf d (k.spot (hz z rfl)).1
theorem Full.downZ {K : List K3} {h h0 : HS} (k : Kept K h0 h) (d : Full K h) {z : Option Nat} (hz : ∀ x, z = some x → In h0 x) : downZ K h z = h := by
  cases z with
  | none => rfl
  | some z => exact Full.down k.wf d (k.spot (hz z rfl)).1

/-- The pair is in order: its ends x and y, of which one is new. -/
theorem settle_pair {K : List K3} {h : HS} (w : WF K h) {a : Nat} (hev : a % 2 = 0) (ha : a + 1 < h.A.length)
    (P : ∀ b, b % 2 = 0 → b + 1 < h.A.length → vw K h.A b ≤ vw K h.A (b + 1))
    (L : ∀ j, 2 ≤ j → j < h.A.length → j ≠ a → j ≠ a + 1 → Heap.lp j ≠ a → vw K h.A (Heap.lp j) ≤ vw K h.A j)
    (H : ∀ j, 2 ≤ j → j < h.A.length → j ≠ a → j ≠ a + 1 → Heap.lp j ≠ a → vw K h.A j ≤ vw K h.A (Heap.lp j + 1))
    (C : 2 ≤ a → ∀ j, 2 ≤ j → j < h.A.length → Heap.lp j = a → vw K h.A (Heap.lp a) ≤ vw K h.A j ∧ vw K h.A j ≤ vw K h.A (Heap.lp a + 1))
    (D : (∀ j, 2 ≤ j → j < h.A.length → Heap.lp j = a → vw K h.A j ≤ vw K h.A (a + 1)) ∨ (∀ j, 2 ≤ j → j < h.A.length → Heap.lp j = a → vw K h.A a ≤ vw K h.A j))
    (E : 2 ≤ a → (vw K h.A (Heap.lp a) ≤ vw K h.A a ∧ vw K h.A a ≤ vw K h.A (Heap.lp a + 1)) ∨ (vw K h.A (Heap.lp a) ≤ vw K h.A (a + 1) ∧ vw K h.A (a + 1) ≤ vw K h.A (Heap.lp a + 1))) :
    let x := some (at_ h.A a)
    let y := some (at_ h.A (a + 1))
    Full K (downZ K (downZ K (upZ K (upZ K h x) y) x) y) := by
  intro x y
  have lpa1 : Heap.lp (a + 1) = Heap.lp a := Heap.lp_pair a hev
  have loa : lo a = a := by unfold lo; omega
  have loa1 : lo (a + 1) = a := by unfold lo; omega
  have Pa := P a hev ha
  have inx : In h (at_ h.A a) := ⟨a, by omega, rfl⟩
  have iny : In h (at_ h.A (a + 1)) := ⟨a + 1, ha, rfl⟩
  have hx : ∀ z, x = some z → In h z := fun z e => by injection e with e; rw [← e]; exact inx
  have hy : ∀ z, y = some z → In h z := fun z e => by injection e with e; rw [← e]; exact iny
  have ux : upZ K h x = up K h a := by show up K h (at_ h.S (at_ h.A a) - 1) = _; rw [w.sp a (by omega)]; rfl
  have kr := Kept.refl w
  have finish : ∀ {g : HS}, Kept K h g → Full K g → Full K (downZ K (downZ K g x) y) := fun k d => by
    rw [Full.downZ k d hx, Full.downZ k d hy]; exact d
  -- is the lower end too low?
  by_cases zl : 2 ≤ a ∧ vw K h.A a < vw K h.A (Heap.lp a)
  · have hl : up K h a = upL K a h a := up_eq w (fun _ => by rw [loa]; exact Pa)
    have ku : Kept K h (up K h a) := Kept.up w (by omega)
    have hc := C zl.1
    have Ea : vw K h.A (Heap.lp a) ≤ vw K h.A (a + 1) ∧ vw K h.A (a + 1) ≤ vw K h.A (Heap.lp a + 1) := by have := E zl.1; omega
    by_cases hi : ∀ j, 2 ≤ j → j < h.A.length → Heap.lp j = a → vw K h.A j ≤ vw K h.A (a + 1)
    · -- nothing else is wrong
      have c : Cond (vw K h.A) h.A.length a h.A.length h.A.length := by
        refine ⟨P, ?_, ?_, fun _ j h2 hj e => hc j h2 hj (by rw [← lo_eq, loa] at e; exact e), by omega, by omega, fun j h2 hj e => (Done.none (Nat.le_refl _) h2 hj e).elim, fun j h2 hj e => (Done.none (Nat.le_refl _) h2 hj e).elim⟩
        · intro j h2 hj hne _
          by_cases e1 : j = a + 1
          · subst e1; rw [lpa1]; exact Ea.1
          · by_cases e2 : Heap.lp j = a
            · rw [e2]; have := (hc j h2 hj e2).1; omega
            · exact L j h2 hj hne e1 e2
        · intro j h2 hj hne _
          by_cases e1 : j = a + 1
          · subst e1; rw [lpa1]; exact Ea.2
          · by_cases e2 : Heap.lp j = a
            · rw [e2]; exact hi j h2 hj e2
            · exact H j h2 hj hne e1 e2
      have d := (upL_done a w (by omega) (Nat.le_refl _) c).1
      rw [← hl, ← ku.len] at d
      rw [ux, Full.upZ ku d hy]
      exact finish ku d
    · -- and the children's upper ends may be above the upper end
      have hlow : ∀ j, 2 ≤ j → j < h.A.length → Heap.lp j = a → vw K h.A a ≤ vw K h.A j := fun j h2 hj e => by have := (hc j h2 hj e).1; omega
      have c : Cond (vw K h.A) h.A.length a h.A.length a := by
        refine ⟨P, ?_, ?_, fun _ j h2 hj e => hc j h2 hj (by rw [← lo_eq, loa] at e; exact e), by omega, fun _ => ⟨hev, ha, by rw [← lo_eq, loa]; exact Nat.le_refl _, hev⟩, fun j h2 hj e => (Done.none (Nat.le_refl _) h2 hj e).elim, fun j h2 hj e _ => (hc j h2 hj e).2⟩
        · intro j h2 hj hne _
          by_cases e1 : j = a + 1
          · subst e1; rw [lpa1]; exact Ea.1
          · by_cases e2 : Heap.lp j = a
            · rw [e2]; exact hlow j h2 hj e2
            · exact L j h2 hj hne e1 e2
        · intro j h2 hj hne e2
          by_cases e1 : j = a + 1
          · subst e1; rw [lpa1]; exact Ea.2
          · exact H j h2 hj hne e1 e2
      have r := upL_done a w (by omega) (Nat.le_refl _) c
      rw [← hl, ← ku.len] at r
      obtain ⟨d, _, ey⟩ := r
      have ey := ey (by rw [ku.len]; exact ha) (by rw [ku.len]; omega)
      rw [ux]
      generalize up K h a = g at *
      have hlen := ku.len
      have uy : upZ K g y = g := by
        show up K g (at_ g.S (at_ h.A (a + 1)) - 1) = g
        rw [← ey, ku.wf.sp (a + 1) (by omega)]
        refine up_noop ku.wf (by omega) (fun _ => by rw [Nat.add_sub_cancel, loa1]; exact d.P a hev (by omega)) (fun _ => ?_)
        rw [Nat.add_sub_cancel]
        have g2 := Heap.lp_facts a zl.1
        exact ⟨d.L (a + 1) (by omega) (by omega) (Done.none (Nat.le_refl _) (by omega) (by omega)), d.H (a + 1) (by omega) (by omega) (by rw [lpa1]; omega)⟩
      rw [uy]
      -- the new entry does not go down
      have sx := ku.spot inx
      have dx : downZ K g x = g := by
        show down K g (at_ g.S (at_ h.A a) - 1) = g
        obtain ⟨p, hp, ep⟩ := ku.mem _ inx
        rw [← ep, ku.wf.sp p hp, Nat.add_sub_cancel]
        have pne : p ≠ a + 1 := by
          intro e
          rw [e, ey] at ep
          have := w.inj (i := a + 1) (j := a) ha (by omega) ep
          omega
        refine down_noop ku.wf hp (fun pev j h2 hj e => ?_) (fun podd j h2 hj e => ?_)
        · have := d.L j h2 hj (Done.none (Nat.le_refl _) h2 hj); rwa [e] at this
        · have := d.H j h2 hj (by rw [e]; unfold lo; omega)
          rwa [e, show lo p + 1 = p from by unfold lo; omega] at this
      rw [dx]
      have dy : downZ K g y = down K g (a + 1) := by
        show down K g (at_ g.S (at_ h.A (a + 1)) - 1) = _
        rw [← ey, ku.wf.sp (a + 1) (by omega), Nat.add_sub_cancel]
      rw [dy]
      exact down_high ku.wf (by omega) (by omega) (by rw [loa1]; exact d)
  · -- the lower end does not go up
    have zl' : 2 ≤ a → vw K h.A (Heap.lp a) ≤ vw K h.A a ∧ vw K h.A a ≤ vw K h.A (Heap.lp a + 1) := fun h2 => by have := E h2; omega
    have u1 : up K h a = h := up_noop w (by omega) (fun _ => by rw [loa]; exact Pa) zl'
    rw [ux, u1]
    have uy0 : upZ K h y = up K h (a + 1) := by show up K h (at_ h.S (at_ h.A (a + 1)) - 1) = _; rw [w.sp (a + 1) ha]; rfl
    rw [uy0]
    have hl : up K h (a + 1) = upL K (a + 1) h (a + 1) := up_eq w (fun _ => by rw [loa1]; exact Pa)
    have ku : Kept K h (up K h (a + 1)) := Kept.up w ha
    -- is the upper end too high?
    by_cases zh : 2 ≤ a ∧ vw K h.A (Heap.lp a + 1) < vw K h.A (a + 1)
    · have hc := C zh.1
      have hhigh : ∀ j, 2 ≤ j → j < h.A.length → Heap.lp j = a → vw K h.A j ≤ vw K h.A (a + 1) := fun j h2 hj e => by have := (hc j h2 hj e).2; omega
      have c : Cond (vw K h.A) h.A.length (a + 1) a h.A.length := by
        refine ⟨P, ?_, ?_, fun _ j h2 hj e => by rw [lpa1]; exact hc j h2 hj (by rw [← lo_eq, loa1] at e; exact e), fun _ => ⟨by omega, by rw [← lo_eq, loa1]; exact Nat.le_refl _, hev⟩, by omega, fun j h2 hj e _ => (hc j h2 hj e).1, fun j h2 hj e => (Done.none (Nat.le_refl _) h2 hj e).elim⟩
        · intro j h2 hj hne e2
          by_cases e1 : j = a
          · subst e1; exact (zl' h2).1
          · exact L j h2 hj e1 hne e2
        · intro j h2 hj hne _
          by_cases e1 : j = a
          · subst e1; exact (zl' h2).2
          · by_cases e2 : Heap.lp j = a
            · rw [e2]; exact hhigh j h2 hj e2
            · exact H j h2 hj e1 hne e2
      have r := upL_done (a + 1) w ha (Nat.le_refl _) c
      rw [← hl, ← ku.len] at r
      obtain ⟨d, ex, _⟩ := r
      have ex := ex (by rw [ku.len]; omega)
      generalize up K h (a + 1) = g at *
      have hlen := ku.len
      have dx : downZ K g x = down K g a := by
        show down K g (at_ g.S (at_ h.A a) - 1) = _
        rw [← ex, ku.wf.sp a (by omega), Nat.add_sub_cancel]
      rw [dx]
      have d2 := down_low ku.wf (by omega) hev d
      have k2 := ku.trans (Kept.down ku.wf (i := a) (by omega))
      rw [Full.downZ k2 d2 hy]
      exact d2
    · have zh' : 2 ≤ a → vw K h.A (Heap.lp a) ≤ vw K h.A (a + 1) ∧ vw K h.A (a + 1) ≤ vw K h.A (Heap.lp a + 1) := fun h2 => by have := zl' h2; omega
      have u2 : up K h (a + 1) = h := up_noop w ha (fun _ => by rw [loa1]; exact Pa) (fun h2 => by
        by_cases h3 : 2 ≤ a
        · rw [lpa1]; exact zh' h3
        · omega)
      rw [u2]
      have dx0 : downZ K h x = down K h a := by show down K h (at_ h.S (at_ h.A a) - 1) = _; rw [w.sp a (by omega)]; rfl
      have dy0 : downZ K h y = down K h (a + 1) := by show down K h (at_ h.S (at_ h.A (a + 1)) - 1) = _; rw [w.sp (a + 1) ha]; rfl
      have L' : ∀ j, 2 ≤ j → j < h.A.length → Heap.lp j ≠ a → vw K h.A (Heap.lp j) ≤ vw K h.A j := fun j h2 hj e2 => by
        by_cases e1 : j = a
        · subst e1; exact (zl' h2).1
        · by_cases e3 : j = a + 1
          · subst e3
            by_cases h3 : 2 ≤ a
            · rw [lpa1]; exact (zh' h3).1
            · exfalso; omega
          · exact L j h2 hj e1 e3 e2
      have H' : ∀ j, 2 ≤ j → j < h.A.length → Heap.lp j ≠ a → vw K h.A j ≤ vw K h.A (Heap.lp j + 1) := fun j h2 hj e2 => by
        by_cases e1 : j = a
        · subst e1; exact (zl' h2).2
        · by_cases e3 : j = a + 1
          · subst e3
            by_cases h3 : 2 ≤ a
            · rw [lpa1]; exact (zh' h3).2
            · exfalso; omega
          · exact H j h2 hj e1 e3 e2
      rcases D with hh | hh
      · have d : Done (vw K h.A) h.A.length a h.A.length := by
          refine ⟨P, L', ?_, fun j h2 hj e h3 => (C h3 j h2 hj e).1, fun j h2 hj e => (Done.none (Nat.le_refl _) h2 hj e).elim⟩
          intro j h2 hj _
          by_cases e2 : Heap.lp j = a
          · rw [e2]; exact hh j h2 hj e2
          · exact H' j h2 hj e2
        rw [dx0]
        have d2 := down_low w (by omega) hev d
        have k2 := kr.trans (Kept.down w (i := a) (by omega))
        rw [Full.downZ k2 d2 hy]
        exact d2
      · have d : Done (vw K h.A) h.A.length h.A.length a := by
          refine ⟨P, ?_, H', fun j h2 hj e => (Done.none (Nat.le_refl _) h2 hj e).elim, fun j h2 hj e h3 => (C h3 j h2 hj e).2⟩
          intro j h2 hj _
          by_cases e2 : Heap.lp j = a
          · rw [e2]; exact hh j h2 hj e2
          · exact L' j h2 hj e2
        have n1 : downZ K h x = h := by
          rw [dx0]
          refine down_noop w (by omega) (fun _ j h2 hj e => hh j h2 hj e) (fun podd => by omega)
        rw [n1, dy0]
        exact down_high w ha (by omega) (by rw [loa1]; exact d)
end Go.Proofs.Ytjgionnigenijaa
