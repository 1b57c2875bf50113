import Derived.Test.YtchaijafpmofdaaHold16
/-! What is taken and given back: plain lists. -/
namespace Go.Proofs.Ytchaijafpmofdaa
open Go.Sl
set_option linter.unusedVariables false
set_option linter.unusedSimpArgs false

def dist (S : List Slot) : Prop := ∀ i j, i < j → j < S.length → (gd S i).1 ≠ (gd S j).1
theorem tw_dist {S : List Slot} : ∀ {k : Nat}, k ≤ S.length → tw S k = false → ∀ i j, i < j → j < k → (gd S i).1 ≠ (gd S j).1 := by
  intro k
  induction k with
  | zero => intro _ _ i j _ h; omega
  | succ k ih =>
    intro hk h i j hij hj
    unfold tw at h
    rw [Bool.or_eq_false_iff, decide_eq_false_iff_not] at h
    by_cases e : j = k
    · subst e
      intro he
      apply h.2
      rw [← he]
      unfold nms
      refine List.mem_map.2 ⟨gd S i, ?_, rfl⟩
      have : gd (S.take j) i = gd S i := gd_take_lt hij
      rw [← this]
      exact gd_mem (by rw [List.length_take]; omega)
    · exact ih (by omega) h.1 i j hij (by omega)
theorem dist_tw {S : List Slot} (h : dist S) : ∀ k, k ≤ S.length → tw S k = false := by
  intro k
  induction k with
  | zero => intro _; rfl
  | succ k ih =>
    intro hk
    unfold tw
    rw [ih (by omega), Bool.false_or, decide_eq_false_iff_not]
    intro hm
    unfold nms at hm
    obtain ⟨s, hs, he⟩ := List.mem_map.1 hm
    obtain ⟨j, hj, rfl⟩ := mem_gd hs
    rw [List.length_take] at hj
    rw [gd_take_lt (by omega)] at he
    exact h j k (by omega) (by omega) he
theorem find_name {S : List Slot} (h : dist S) {i : Nat} (hi : i < S.length) : S.findIdx? (fun s => decide (s.1 = (gd S i).1)) = some i := by
  rw [List.findIdx?_eq_some_iff_getElem]
  refine ⟨hi, by rw [← gd_eq hi]; simp, fun j hj => ?_⟩
  rw [← gd_eq (by omega)]
  simpa using h j i hj hi
theorem dist_names {S L : List Slot} (h : dist S) (hl : L.length = S.length) (hn : ∀ i, i < S.length → (gd L i).1 = (gd S i).1) : dist L := fun i j hij hj => by
  rw [hn i (by omega), hn j (by omega)]; exact h i j hij (by omega)
theorem onS_succ {T : List V4} {n : Nat} {g : Nat → Nat} {i : Nat} : onS T (List.range (n + 1)) g i = if g n = i then onS T (List.range n) g i ++ [gd T n] else onS T (List.range n) g i := by
  unfold onS
  rw [List.range_succ, List.filter_append, List.map_append]
  by_cases h : g n = i
  · simp [h]
  · simp [h]
theorem wrong0 {T : List V4} {S : List Slot} : wrongR T S = 0 ↔ (∀ v ∈ T, formed v = true) ∧ (∀ s ∈ S, formed s.2 = true) ∧ dist S ∧ 1 ≤ T.length ∧ T.length ≤ 6 := by
  unfold wrongR
  have hu : unf T S S.length = false ↔ (∀ v ∈ T, formed v = true) ∧ (∀ s ∈ S, formed s.2 = true) := by
    unfold unf
    rw [Bool.or_eq_false_iff, List.take_length, List.any_eq_false, List.any_eq_false]
    simp
  have ht : tw S S.length = false ↔ dist S := ⟨fun h i j hij hj => tw_dist (Nat.le_refl _) h i j hij hj, fun h => dist_tw h _ (Nat.le_refl _)⟩
  rw [← ht]
  cases e1 : unf T S S.length with
  | true =>
    rw [e1] at hu
    simp only [if_true]
    constructor
    · intro h; cases h
    · rintro ⟨a, b, _⟩; exact absurd (hu.2 ⟨a, b⟩) (by simp)
  | false =>
    rw [e1] at hu
    have := hu.1 rfl
    cases e2 : tw S S.length with
    | true => simp
    | false =>
      by_cases h : T.length < 1 ∨ T.length > 6
      · rw [if_neg (by simp), if_neg (by simp), if_pos h]
        constructor
        · intro h; cases h
        · rintro ⟨_, _, _, a, b⟩; omega
      · rw [if_neg (by simp), if_neg (by simp), if_neg h]
        exact ⟨fun _ => ⟨this.1, this.2, rfl, by omega, by omega⟩, fun _ => rfl⟩
theorem sub_add (a b : V4) : add4 (sub4 a b) b = a := by simp only [add4, sub4, Int.sub_add_cancel]
theorem sub4_add (a b c : V4) : sub4 (sub4 a b) c = sub4 a (add4 b c) := by simp only [add4, sub4, Int.sub_sub]
theorem addR_ok {a b : V4} (ha : formed a = true) (hb : formed b = true) (h : formed (add4 a b) = true) : addR a b = (add4 a b, 0) := by simp [addR, ha, hb, h]
theorem fits_trans {a b c : V4} (h : fits a b = true) (k : fits b c = true) : fits a c = true := by rw [fits_iff] at *; omega
theorem sumV_one (v : V4) : sumV [v] = v := by simp [sumV, add4, z4]
section
variable {T : List V4} {N : List ByteArray} {S : List Slot} {g : Nat → Nat}
theorem onS_nn (hT : ∀ v ∈ T, formed v = true) {n : Nat} (hn : n ≤ T.length) {i : Nat} : nn (sumV (onS T (List.range n) g i)) := sumV_nn (by
  intro v hv
  unfold onS at hv
  obtain ⟨t, ht, rfl⟩ := List.mem_map.1 hv
  have := List.mem_range.1 (List.mem_filter.1 ht).1
  exact formed_nn (hT _ (gd_mem (by omega))))
theorem onS_mono (hT : ∀ v ∈ T, formed v = true) {i m : Nat} {b : V4} (h : fits (sumV (onS T (List.range T.length) g i)) b = true) (hm : m ≤ T.length) : fits (sumV (onS T (List.range m) g i)) b = true := by
  have key : ∀ d, fits (sumV (onS T (List.range (T.length - d)) g i)) b = true := by
    intro d
    induction d with
    | zero => exact h
    | succ d ih =>
      by_cases hd : T.length - d = 0
      · have : T.length - (d + 1) = T.length - d := by omega
        rw [this]; exact ih
      · have e : T.length - d = (T.length - (d + 1)) + 1 := by omega
        rw [e, onS_succ] at ih
        split at ih
        · rw [sumV_app, sumV_one] at ih
          have h1 := formed_nn (hT (gd T (T.length - (d + 1))) (gd_mem (by omega)))
          unfold nn at h1
          rw [fits_iff] at *
          simp only [add4] at ih
          omega
        · exact ih
  have := key (T.length - m)
  rwa [show T.length - (T.length - m) = m from by omega] at this
theorem moved_sub (hT : ∀ v ∈ T, formed v = true) (hS : ∀ s ∈ S, formed s.2 = true) (hd : dist S) (hg : ∀ t, t < T.length → g t < S.length ∧ gd N t = (gd S (g t)).1)
    (hf : ∀ i, i < S.length → fits (sumV (onS T (List.range T.length) g i)) (gd S i).2 = true) : ∀ n, n ≤ T.length → ∃ L, movedGo subR T N n S = some L ∧ L.length = S.length ∧ ∀ i, i < S.length → gd L i = ((gd S i).1, sub4 (gd S i).2 (sumV (onS T (List.range n) g i))) := by
  intro n
  induction n with
  | zero => intro _; exact ⟨S, rfl, rfl, fun i hi => by simp [onS, sumV, sub4, z4]⟩
  | succ n ih =>
    intro hn
    obtain ⟨L, h1, h2, h3⟩ := ih (by omega)
    obtain ⟨g1, g2⟩ := hg n (by omega)
    have hdL : dist L := dist_names hd h2 (fun i hi => by rw [h3 i hi])
    have hfind : L.findIdx? (fun s => decide (s.1 = gd N n)) = some (g n) := by
      rw [g2, show (gd S (g n)).1 = (gd L (g n)).1 from by rw [h3 _ g1]]
      exact find_name hdL (by omega)
    have hTn : formed (gd T n) = true := hT _ (gd_mem (by omega))
    have hSg : formed (gd S (g n)).2 = true := hS _ (gd_mem g1)
    have hm1 := onS_mono (m := n + 1) hT (hf _ g1) hn
    rw [onS_succ, if_pos rfl, sumV_app, sumV_one] at hm1
    have hnn := onS_nn (g := g) (i := g n) hT (n := n) (by omega)
    have hfm : formed (sub4 (gd S (g n)).2 (sumV (onS T (List.range n) g (g n)))) = true := by
      have hTnn := formed_nn hTn
      unfold nn at *
      rw [formed_iff] at *
      rw [fits_iff] at hm1
      simp only [add4, sub4] at *
      omega
    have hfits : fits (gd T n) (sub4 (gd S (g n)).2 (sumV (onS T (List.range n) g (g n)))) = true := by rw [fits_sub]; exact hm1
    refine ⟨L.set (g n) ((gd L (g n)).1, sub4 (gd L (g n)).2 (gd T n)), ?_, by rw [List.length_set]; exact h2, ?_⟩
    · unfold movedGo
      rw [h1]
      dsimp only
      rw [hfind]
      dsimp only
      rw [h3 _ g1, subR_ok hfm hTn hfits]
      rfl
    · intro i hi
      rw [gd_set (by omega), onS_succ]
      by_cases e : i = g n
      · subst e
        rw [if_pos rfl, if_pos rfl, h3 _ g1, sumV_app, sumV_one]
        simp only [sub4_add]
      · rw [if_neg e, if_neg (fun q => e q.symm)]
        exact h3 i hi
theorem moved_add {S0 : List Slot} (hT : ∀ v ∈ T, formed v = true) (hS : ∀ s ∈ S0, formed s.2 = true) (hd : dist S0) (hg : ∀ t, t < T.length → g t < S0.length ∧ gd N t = (gd S0 (g t)).1)
    (hf : ∀ i, i < S0.length → fits (sumV (onS T (List.range T.length) g i)) (gd S0 i).2 = true) (hl : S.length = S0.length) (hq : ∀ i, i < S0.length → gd S i = ((gd S0 i).1, sub4 (gd S0 i).2 (sumV (onS T (List.range T.length) g i)))) :
    ∀ n, n ≤ T.length → ∃ L, movedGo addR T N n S = some L ∧ L.length = S0.length ∧ ∀ i, i < S0.length → gd L i = ((gd S0 i).1, add4 (sub4 (gd S0 i).2 (sumV (onS T (List.range T.length) g i))) (sumV (onS T (List.range n) g i))) := by
  intro n
  induction n with
  | zero => intro _; exact ⟨S, rfl, hl, fun i hi => by rw [hq i hi]; simp [onS, sumV, add4, z4]⟩
  | succ n ih =>
    intro hn
    obtain ⟨L, h1, h2, h3⟩ := ih (by omega)
    obtain ⟨g1, g2⟩ := hg n (by omega)
    have hdL : dist L := dist_names hd h2 (fun i hi => by rw [h3 i hi])
    have hfind : L.findIdx? (fun s => decide (s.1 = gd N n)) = some (g n) := by
      rw [g2, show (gd S0 (g n)).1 = (gd L (g n)).1 from by rw [h3 _ g1]]
      exact find_name hdL (by omega)
    have hTn : formed (gd T n) = true := hT _ (gd_mem (by omega))
    have hSg : formed (gd S0 (g n)).2 = true := hS _ (gd_mem g1)
    -- the part that is behind is none below 0
    have hall := hf _ g1
    have key : ∀ d m, m + d = T.length → fits (sumV (onS T (List.range m) g (g n))) (sumV (onS T (List.range T.length) g (g n))) = true := by
      intro d
      induction d with
      | zero => intro m hm; have : m = T.length := by omega
                subst this; rw [fits_iff]; omega
      | succ d ihd =>
        intro m hm
        refine fits_trans ?_ (ihd (m + 1) (by omega))
        rw [onS_succ]
        split
        · have hTm := formed_nn (hT (gd T m) (gd_mem (by omega)))
          rw [sumV_app, sumV_one, fits_iff]
          unfold nn at hTm
          simp only [add4]; omega
        · rw [fits_iff]; omega
    have k1 := key (T.length - n) n (by omega)
    have k2 := key (T.length - (n + 1)) (n + 1) (by omega)
    rw [onS_succ, if_pos rfl, sumV_app, sumV_one] at k2
    have n1 := onS_nn (g := g) (i := g n) hT (n := n) (by omega)
    have f1 : formed (add4 (sub4 (gd S0 (g n)).2 (sumV (onS T (List.range T.length) g (g n)))) (sumV (onS T (List.range n) g (g n)))) = true := by
      unfold nn at n1
      rw [formed_iff] at *
      rw [fits_iff] at *
      simp only [add4, sub4] at *
      omega
    have f2 : formed (add4 (add4 (sub4 (gd S0 (g n)).2 (sumV (onS T (List.range T.length) g (g n)))) (sumV (onS T (List.range n) g (g n)))) (gd T n)) = true := by
      unfold nn at n1
      rw [formed_iff] at *
      rw [fits_iff] at *
      simp only [add4, sub4] at *
      omega
    refine ⟨L.set (g n) ((gd L (g n)).1, add4 (gd L (g n)).2 (gd T n)), ?_, by rw [List.length_set]; exact h2, ?_⟩
    · unfold movedGo
      rw [h1]
      dsimp only
      rw [hfind]
      dsimp only
      rw [h3 _ g1, addR_ok f1 hTn f2]
      rfl
    · intro i hi
      rw [gd_set (by omega), onS_succ]
      by_cases e : i = g n
      · subst e
        rw [if_pos rfl, if_pos rfl, h3 _ g1, sumV_app, sumV_one]
        simp only [add4_assoc]
      · rw [if_neg e, if_neg (fun q => e q.symm)]
        exact h3 i hi
end
/-- What finds room can be taken, and given back. -/
theorem back_law {T : List V4} {S : List Slot} (h : (fitR T S).2 = 0) : (movedR subR T (fitR T S).1 S).2 = 0 ∧ movedR addR T (fitR T S).1 (movedR subR T (fitR T S).1 S).1 = (S, 0) := by
  obtain ⟨hw, hl, g, hg, hf⟩ := fitR_spec h
  generalize (fitR T S).1 = N at *
  obtain ⟨hT, hS, hd, h1, h6⟩ := wrong0.1 hw
  obtain ⟨L, e1, e2, e3⟩ := moved_sub (N := N) hT hS hd hg hf T.length (Nat.le_refl _)
  have hany : N.any (fun n => !(nms S).contains n) = false := by
    rw [List.any_eq_false]
    intro x hx
    obtain ⟨t, ht, rfl⟩ := mem_gd hx
    obtain ⟨q1, q2⟩ := hg t (by omega)
    rw [q2]
    have : (nms S).contains (gd S (g t)).1 = true := by
      rw [List.contains_iff_mem]
      exact List.mem_map.2 ⟨_, gd_mem q1, rfl⟩
    rw [this]; simp
  have hm : movedR subR T N S = (L, 0) := by
    unfold movedR
    rw [if_neg (by simpa using hw), if_neg (by omega), if_neg (by rw [hany]; simp), hl, e1]
  rw [hm]
  refine ⟨rfl, ?_⟩
  have hnm : nms L = nms S := by
    unfold nms
    refine gd_ext (by simp [e2]) (fun k hk => ?_)
    rw [List.length_map] at hk
    rw [gd_map hk, gd_map (by omega), e3 k (by omega)]
  have hLf : ∀ s ∈ L, formed s.2 = true := by
    intro s hs
    obtain ⟨i, hi, rfl⟩ := mem_gd hs
    rw [e3 i (by omega)]
    have a := hf i (by omega)
    have b := hS _ (gd_mem (show i < S.length by omega))
    have c := onS_nn (g := g) (i := i) hT (n := T.length) (Nat.le_refl _)
    unfold nn at c
    rw [fits_iff] at a
    rw [formed_iff] at *
    simp only [sub4]; omega
  have hwL : wrongR T L = 0 := wrong0.2 ⟨hT, hLf, dist_names hd e2 (fun i hi => by rw [e3 i hi]), h1, h6⟩
  obtain ⟨L', q1, q2, q3⟩ := moved_add (N := N) (S := L) hT hS hd hg hf e2 e3 T.length (Nat.le_refl _)
  have hLS : L' = S := gd_ext q2 (fun k hk => by rw [q3 k (by omega), sub_add])
  show movedR addR T N L = (S, 0)
  unfold movedR
  rw [if_neg (by simpa using hwL), if_neg (by omega), if_neg (by rw [hnm, hany]; simp), hl, q1, hLS]
end Go.Proofs.Ytchaijafpmofdaa
