import Derived.Test.YtchaijafpmofdaaPr4
/-! What holds of a profile. -/
namespace Go.Proofs.Ytchaijafpmofdaa
open Go.Sl
set_option linter.unusedVariables false
set_option linter.unusedSimpArgs false

structure PInv (c : V4) (L : List StepT) (k : Nat) : Prop where
  form : formed c = true
  ris : Ris L
  ats : ∀ s ∈ L, 0 ≤ s.1 ∧ s.1 ≤ 1099511627776
  free : ∀ s ∈ L, formed s.2 = true ∧ fits s.2 c = true
  new : new' c L
  last : ∀ x, (∀ s ∈ L, s.1 ≤ x) → fr c L x = c
  len : L.length ≤ 2 * k
  few : k ≤ 4096
theorem PInv.zero {c : V4} (h : formed c = true) : PInv c [] 0 := ⟨h, List.Pairwise.nil, fun s hs => by simp at hs, fun s hs => by simp at hs, trivial, fun _ _ => rfl, Nat.le_refl _, by omega⟩
theorem fr_val {c : V4} {L : List StepT} (t : Int) : fr c L t = c ∨ ∃ s ∈ L, fr c L t = s.2 := by
  unfold fr
  by_cases h : plc L t = 0
  · rw [if_pos h]; exact .inl rfl
  · rw [if_neg h]
    have := plc_le L t
    exact .inr ⟨_, gd_mem (by omega), rfl⟩
theorem PInv.at' {c : V4} {L : List StepT} {k : Nat} (h : PInv c L k) (t : Int) : formed (fr c L t) = true ∧ fits (fr c L t) c = true := by
  rcases fr_val (c := c) (L := L) t with e | ⟨s, hs, e⟩
  · rw [e]; exact ⟨h.form, fits_refl c⟩
  · rw [e]; exact h.free s hs
theorem sub_form {x v : V4} (hx : formed x = true) (hv : formed v = true) (h : fits v x = true) : (subR x v).1 = sub4 x v ∧ formed (sub4 x v) = true ∧ fits (sub4 x v) x = true := by
  refine ⟨by unfold subR; rw [hx, hv]; simp [h], ?_, ?_⟩
  · rw [formed_iff] at *; rw [fits_iff] at h; simp only [sub4]; omega
  · rw [formed_iff] at hv; rw [fits_iff] at *; simp only [sub4]; omega
theorem takeE_ok {c : V4} {L : List StepT} {k : Nat} {a b : Int} {v : V4} : takeE c L k a b v = 0 ↔ formed v = true ∧ spanB a b = true ∧ k < 4096 ∧ fits v (lstL c L a b) = true := by
  unfold takeE
  by_cases h1 : formed v = true
  · by_cases h2 : spanB a b = true
    · by_cases h3 : k < 4096
      · by_cases h4 : fits v (lstL c L a b) = true
        · simp [h1, h2, h3, h4]
        · simp [h1, h2, h3, h4]
      · simp [h1, h2, h3]
    · simp [h1, h2]
  · simp [h1]
theorem span_iff {a b : Int} : spanB a b = true ↔ 0 ≤ a ∧ a < b ∧ b ≤ 1099511627776 := by simp [spanB]
theorem lst_fits {c : V4} {L : List StepT} {a b : Int} {v : V4} (hr : Ris L) (hab : a < b) : fits v (lstL c L a b) = true ↔ ∀ t, a ≤ t → t < b → fits v (fr c L t) = true := (lst_is hr hab).iff v
theorem fr_lessL {c : V4} {L : List StepT} {k : Nat} {a b : Int} {v : V4} (h : PInv c L k) (he : takeE c L k a b v = 0) (u : Int) : fr c (lessL c L a b v) u = if a ≤ u ∧ u < b then sub4 (fr c L u) v else fr c L u := by
  obtain ⟨h1, h2, h3, h4⟩ := takeE_ok.1 he
  obtain ⟨s1, s2, s3⟩ := span_iff.1 h2
  have hf := (lst_fits h.ris s2).1 h4
  have r1 := spR_ris (w := c) (t := a) h.ris
  have r2 := spR_ris (w := c) (t := b) r1
  have rm : Ris ((spR c (spR c L a) b).map (lessS a b (fun x => (subR x v).1))) := by
    unfold Ris
    rw [List.pairwise_map]
    exact r2.imp (fun {x y} hxy => by rw [lessS_at, lessS_at]; exact hxy)
  have hin : ∀ s ∈ spR c (spR c L a) b, 0 ≤ s.1 := by
    intro s hs
    rcases spR_mem hs with q | q
    · rcases spR_mem q with q | q
      · exact (h.ats s q).1
      · rw [q]; exact s1
    · rw [q]; show 0 ≤ b; omega
  have main : fR c ((spR c (spR c L a) b).map (lessS a b (fun x => (subR x v).1))) u = if a ≤ u ∧ u < b then (subR (fR c L u) v).1 else fR c L u := by
    by_cases hu : -1 ≤ u
    · have ha : ∃ s ∈ spR c (spR c L a) b, s.1 = a := by
        obtain ⟨s, hs, e⟩ := spR_has (L := L) (w := c) (t := a)
        exact ⟨s, spR_sub hs, e⟩
      have := fR_less (w := c) (m := -1) (u := u) (h := fun x => (subR x v).1) (a := a) (b := b) r2 (fun s hs => by have := hin s hs; omega) (.inr ha) (.inr spR_has) hu
      rw [if_neg (by omega), fR_sp, fR_sp] at this
      exact this
    · rw [if_neg (by omega), fR_before, fR_before]
      · intro s hs; have := (h.ats s hs).1; omega
      · intro s hs
        obtain ⟨s0, hs0, rfl⟩ := List.mem_map.1 hs
        rw [lessS_at]
        have := hin s0 hs0; omega
  rw [fr_eq, lessL, split_eq h.ris, split_eq r1, fR_cn rm, main, fr_eq]
  by_cases c1 : a ≤ u ∧ u < b
  · rw [if_pos c1, if_pos c1]
    have := h.at' u
    have hfu := hf u c1.1 c1.2
    rw [fr_eq] at this hfu
    exact (sub_form this.1 h1 hfu).1
  · rw [if_neg c1, if_neg c1]
theorem PInv.take {c : V4} {L : List StepT} {k : Nat} {a b : Int} {v : V4} (h : PInv c L k) (he : takeE c L k a b v = 0) : PInv c (lessL c L a b v) (k + 1) := by
  have hfr := fr_lessL h he
  obtain ⟨h1, h2, h3, h4⟩ := takeE_ok.1 he
  obtain ⟨s1, s2, s3⟩ := span_iff.1 h2
  have hf := (lst_fits h.ris s2).1 h4
  have r1 := spR_ris (w := c) (t := a) h.ris
  have r2 := spR_ris (w := c) (t := b) r1
  have rm : Ris ((spR c (spR c L a) b).map (lessS a b (fun x => (subR x v).1))) := by
    unfold Ris
    rw [List.pairwise_map]
    exact r2.imp (fun {x y} hxy => by rw [lessS_at, lessS_at]; exact hxy)
  have hL : lessL c L a b v = cn c ((spR c (spR c L a) b).map (lessS a b (fun x => (subR x v).1))) := by rw [lessL, split_eq h.ris, split_eq r1]
  have hris : Ris (lessL c L a b v) := by rw [hL]; exact cn_ris rm
  have hats : ∀ s ∈ lessL c L a b v, 0 ≤ s.1 ∧ s.1 ≤ 1099511627776 := by
    intro s hs
    rw [hL] at hs
    obtain ⟨s0, hs0, rfl⟩ := List.mem_map.1 (cn_sub hs)
    rw [lessS_at]
    rcases spR_mem hs0 with q | q
    · rcases spR_mem q with q | q
      · exact h.ats _ q
      · rw [q]; show 0 ≤ a ∧ a ≤ _; omega
    · rw [q]; show 0 ≤ b ∧ b ≤ _; omega
  have hok : ∀ u, formed (fr c (lessL c L a b v) u) = true ∧ fits (fr c (lessL c L a b v) u) c = true := by
    intro u
    rw [hfr u]
    have q := h.at' u
    by_cases c1 : a ≤ u ∧ u < b
    · rw [if_pos c1]
      obtain ⟨_, z1, z2⟩ := sub_form q.1 h1 (hf u c1.1 c1.2)
      refine ⟨z1, ?_⟩
      have q2 := q.2
      rw [fits_iff] at *; omega
    · rw [if_neg c1]; exact q
  refine ⟨h.form, hris, hats, fun s hs => ?_, by rw [hL]; exact cn_new, fun x hx => ?_, ?_, by omega⟩
  · have := hok s.1
    rw [fr_eq, fR_at hris hs] at this
    exact this
  · have e : fr c (lessL c L a b v) (max x 1099511627776) = fr c (lessL c L a b v) x := by
      rw [fr_eq, fr_eq]
      rcases fR_cases (w := c) hris (show x ≤ max x 1099511627776 by omega) with q | ⟨s, hs, q1, _, _⟩
      · exact q
      · have := hx s hs; omega
    rw [← e, hfr, if_neg (by omega)]
    exact h.last _ (fun s hs => by have := (h.ats s hs).2; omega)
  · rw [hL]
    have := cn_len c ((spR c (spR c L a) b).map (lessS a b (fun x => (subR x v).1)))
    rw [List.length_map] at this
    have w1 := spR_len (w := c) (L := spR c L a) (t := b)
    have w2 := spR_len (w := c) (L := L) (t := a)
    have := h.len
    omega
theorem new_at {L : List StepT} : ∀ {c : V4} {i : Nat}, new' c L → i < L.length → (gd L i).2 ≠ pv c L i := by
  induction L with
  | nil => intro c i _ h; simp at h
  | cons s L ih =>
    intro c i hn h
    cases i with
    | zero => exact hn.1
    | succ i =>
      have := ih (i := i) hn.2 (by simp at h; exact h)
      have e : pv c (s :: L) (i + 1) = pv s.2 L i := by cases i <;> rfl
      rw [e]; exact this
theorem PInv.pv_last {c : V4} {L : List StepT} {k : Nat} (h : PInv c L k) : pv c L L.length = c := by
  have e : plc L 1099511627776 = L.length := plc_uniq (rising_iff.2 h.ris) (Nat.le_refl _) (fun i hi => (h.ats _ (gd_mem hi)).2) (fun q => absurd q (Nat.lt_irrefl _))
  have := h.last 1099511627776 (fun s hs => (h.ats s hs).2)
  unfold fr at this
  rw [e] at this
  exact this
theorem PInv.fr_at {c : V4} {L : List StepT} {k : Nat} (h : PInv c L k) {i : Nat} (hi : i < L.length) : fr c L (gd L i).1 = (gd L i).2 := by rw [fr_eq]; exact fR_at h.ris (gd_mem hi)
theorem PInv.fr_neg {c : V4} {L : List StepT} {k : Nat} (h : PInv c L k) {t : Int} (ht : t < 0) : fr c L t = c := by rw [fr_eq]; exact fR_before (fun s hs => by have := (h.ats s hs).1; omega)
theorem PInv.fr_max {c : V4} {L : List StepT} {k : Nat} (h : PInv c L k) : fr c L 1099511627776 = c := h.last _ (fun s hs => (h.ats s hs).2)
theorem PInv.uniq {c : V4} {L L' : List StepT} {k k' : Nat} (h : PInv c L k) (h' : PInv c L' k') (e : ∀ t, fr c L t = fr c L' t) : L = L' :=
  fR_uniq h.ris h'.ris h.new h'.new (fun t => by rw [← fr_eq, ← fr_eq]; exact e t)
end Go.Proofs.Ytchaijafpmofdaa
