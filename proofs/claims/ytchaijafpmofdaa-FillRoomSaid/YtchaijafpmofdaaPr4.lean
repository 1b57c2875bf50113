import Derived.Test.YtchaijafpmofdaaPr3
/-! Earliest, walked. -/
namespace Go.Proofs.Ytchaijafpmofdaa
open Go.Sl
set_option linter.unusedVariables false
set_option linter.unusedSimpArgs false
set_option maxRecDepth 100000
set_option maxHeartbeats 4000000

/-- Free for a while from t on. -/
def Good (f : Int → V4) (v : V4) (span t : Int) : Prop := ∀ x, t ≤ x → x < t + span → fits v (f x) = true
structure IsEar (f : Int → V4) (v : V4) (a span t : Int) : Prop where
  le : a ≤ t
  good : Good f v span t
  first : ∀ x, a ≤ x → x < t → ¬ Good f v span x
theorem IsEar.uniq {f : Int → V4} {v : V4} {a span t t' : Int} (h : IsEar f v a span t) (h' : IsEar f v a span t') : t = t' := by
  rcases Int.lt_trichotomy t t' with c | c | c
  · exact absurd h.good (h'.first t h.le c)
  · exact c
  · exact absurd h'.good (h.first t' h'.le c)
def earE (c : V4) (a span : Int) (v : V4) : Int := if formed v = true then if a < 0 ∨ a > 1099511627776 ∨ span < 1 ∨ span > 1099511627776 then 2 else if fits v c = true then 0 else 7 else 4
/-- The answer. -/
def EarAns (f : Int → V4) (c : V4) (a span : Int) (v : V4) (r : Int × Int) : Prop := if earE c a span v = 0 then ∃ t, IsEar f v a span t ∧ r = if t + span > 1099511627776 then (0, 2) else (t, 0) else r = (0, earE c a span v)
theorem EarAns.uniq {f : Int → V4} {c : V4} {a span : Int} {v : V4} {r r' : Int × Int} (h : EarAns f c a span v r) (h' : EarAns f c a span v r') : r = r' := by
  unfold EarAns at h h'
  split at h
  · rename_i q
    rw [if_pos q] at h'
    obtain ⟨t, h1, rfl⟩ := h
    obtain ⟨t', h1', rfl⟩ := h'
    rw [h1.uniq h1']
  · rename_i q
    rw [if_neg q] at h'
    rw [h, h']
theorem EarAns.err {f : Int → V4} {c : V4} {a span : Int} {v : V4} {e : Int} (he : e ≠ 0) (h : earE c a span v = e) : EarAns f c a span v (0, e) := by
  unfold EarAns
  rw [h, if_neg he]
theorem fr_step {c : V4} {L : List StepT} (hr : Ris L) {i : Nat} (hi : i < L.length) {x : Int} (h1 : (gd L i).1 ≤ x) (h2 : ∀ y, i + 1 ≤ y → y < L.length → x < (gd L y).1) : fr c L x = (gd L i).2 := by
  have hat : fR c L (gd L i).1 = (gd L i).2 := fR_at hr (gd_mem hi)
  rw [fr_eq, ← hat]
  rcases fR_cases (w := c) hr h1 with e | ⟨s, hs, q1, q2, _⟩
  · exact e
  · exfalso
    obtain ⟨y, hy, rfl⟩ := mem_gd hs
    have : i < y := by
      apply Nat.not_le.1
      intro z
      have := rising_le (rising_iff.2 hr) z hi
      omega
    have := h2 y this hy
    omega
/-- At the step i: t, and whether it is open. -/
structure EInv (c : V4) (L : List StepT) (v : V4) (a span : Int) (i : Nat) (t : Int) (o : Bool) : Prop where
  le : i ≤ L.length
  ge : plc L a ≤ i
  at1 : a ≤ t
  at2 : t ≤ 1099511627776
  op : o = true → ∀ x, t ≤ x → (∀ y, i ≤ y → y < L.length → x < (gd L y).1) → fits v (fr c L x) = true
  no : ∀ x, a ≤ x → x < t → ¬ Good (fr c L) v span x
  cl : o = false → ∀ x, a ≤ x → (∀ y, i ≤ y → y < L.length → x < (gd L y).1) → ¬ Good (fr c L) v span x
theorem EInv.start {c : V4} {L : List StepT} {v : V4} {a span : Int} (hr : Ris L) (ha : a ≤ 1099511627776) (hs : 1 ≤ span) : EInv c L v a span (plc L a) a (fits v (fr c L a)) := by
  have key : ∀ x, a ≤ x → (∀ y, plc L a ≤ y → y < L.length → x < (gd L y).1) → fr c L x = fr c L a := by
    intro x hx hy
    rw [fr_eq, fr_eq]
    rcases fR_cases (w := c) hr hx with e | ⟨s, hs, q1, q2, _⟩
    · exact e
    · exfalso
      obtain ⟨y, hy', rfl⟩ := mem_gd hs
      have : plc L a ≤ y := by
        apply Nat.not_lt.1
        intro z
        have := plc_lt z
        omega
      have := hy y this hy'
      omega
  exact ⟨plc_le L a, Nat.le_refl _, Int.le_refl _, ha, fun o x hx hy => by rw [key x hx hy]; exact o, fun x h1 h2 => by omega, fun o x hx hy g => by
    have := g x (Int.le_refl _) (by omega)
    rw [key x hx hy, o] at this; cases this⟩
theorem EInv.brk {c : V4} {L : List StepT} {v : V4} {a span : Int} {i : Nat} {t : Int} (hr : Ris L) (h : EInv c L v a span i t true) (hi : i < L.length) (hb : (gd L i).1 ≥ t + span) : IsEar (fr c L) v a span t :=
  ⟨h.at1, fun x h1 h2 => h.op rfl x h1 (fun y hy hyl => by have := rising_le (rising_iff.2 hr) hy hyl; omega), h.no⟩
theorem EInv.shut {c : V4} {L : List StepT} {v : V4} {a span : Int} {i : Nat} {t : Int} (hr : Ris L) (hs : 1 ≤ span) (h : EInv c L v a span i t true) (hi : i < L.length) (hb : ¬ (gd L i).1 ≥ t + span) (hf : fits v (gd L i).2 = false) : EInv c L v a span (i + 1) t false :=
  ⟨hi, by have := h.ge; omega, h.at1, h.at2, fun o => (by cases o), h.no, fun _ x hx hy g => by
    have hat : fr c L (gd L i).1 = (gd L i).2 := by rw [fr_eq]; exact fR_at hr (gd_mem hi)
    by_cases q : x < t
    · exact h.no x hx q g
    · by_cases q2 : x ≤ (gd L i).1
      · have := g _ q2 (by omega)
        rw [hat, hf] at this; cases this
      · have := g x (Int.le_refl _) (by omega)
        rw [fr_step hr hi (by omega) hy, hf] at this; cases this⟩
theorem EInv.open' {c : V4} {L : List StepT} {v : V4} {a span : Int} {i : Nat} {t : Int} (hr : Ris L) (h : EInv c L v a span i t false) (hi : i < L.length) (hm : (gd L i).1 ≤ 1099511627776) (hf : fits v (gd L i).2 = true) : EInv c L v a span (i + 1) (gd L i).1 true :=
  ⟨hi, by have := h.ge; omega, by
    have h1 := h.ge
    have := rising_le (rising_iff.2 hr) h1 hi
    have := plc_ge (t := a) (L := L) (by omega)
    omega, hm, fun _ x hx hy => by rw [fr_step hr hi hx hy]; exact hf, fun x hx hx2 => h.cl rfl x hx (fun y hy hyl => by have := rising_le (rising_iff.2 hr) hy hyl; omega), fun o => (by cases o)⟩
theorem EInv.stay {c : V4} {L : List StepT} {v : V4} {a span : Int} {i : Nat} {t : Int} {o : Bool} (hr : Ris L) (hs : 1 ≤ span) (h : EInv c L v a span i t o) (hi : i < L.length) (hf : fits v (gd L i).2 = o) : EInv c L v a span (i + 1) t o := by
  refine ⟨hi, by have := h.ge; omega, h.at1, h.at2, fun ho x hx hy => ?_, h.no, fun ho x hx hy g => ?_⟩
  · by_cases q : (gd L i).1 ≤ x
    · rw [fr_step hr hi q hy, hf]; exact ho
    · exact h.op ho x hx (fun y hy' hyl => by have := rising_le (rising_iff.2 hr) hy' hyl; omega)
  · by_cases q : (gd L i).1 ≤ x
    · have := g x (Int.le_refl _) (by omega)
      rw [fr_step hr hi q hy, hf, ho] at this; cases this
    · exact h.cl ho x hx (fun y hy' hyl => by have := rising_le (rising_iff.2 hr) hy' hyl; omega) g
theorem EInv.done {c : V4} {L : List StepT} {v : V4} {a span : Int} {t : Int} {o : Bool} (h : EInv c L v a span L.length t o) (hl : ∀ x, (∀ s ∈ L, s.1 ≤ x) → fr c L x = c) (hm : ∀ s ∈ L, s.1 ≤ 1099511627776) (ha : a ≤ 1099511627776) (hf : fits v c = true) : IsEar (fr c L) v a span t := by
  cases o with
  | true => exact ⟨h.at1, fun x h1 _ => h.op rfl x h1 (fun y hy hyl => by omega), h.no⟩
  | false =>
    exfalso
    refine h.cl rfl 1099511627776 ha (fun y hy hyl => by omega) (fun x hx _ => ?_)
    rw [hl x (fun s hs => by have := hm s hs; omega)]
    exact hf
end Go.Proofs.Ytchaijafpmofdaa
