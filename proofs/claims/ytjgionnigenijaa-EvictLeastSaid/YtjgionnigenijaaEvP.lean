import Derived.Test.YtjgionnigenijaaEv6
/-! What all victims give back: plain lists. -/
namespace Go.Proofs.Ytjgionnigenijaa
open Go.Sl
set_option linter.unusedVariables false
set_option linter.unusedSimpArgs false

/-- What the first n tasks take of a node. -/
def ctN (T : List V4) (N : List ByteArray) (nm : ByteArray) (n : Nat) : V4 := sumV (((List.range n).filter (fun t => gd N t == nm)).map (gd T))
theorem ctN_succ (T : List V4) (N : List ByteArray) (nm : ByteArray) (n : Nat) : ctN T N nm (n + 1) = if gd N n = nm then add4 (ctN T N nm n) (gd T n) else ctN T N nm n := by
  unfold ctN
  rw [List.range_succ, List.filter_append, List.map_append]
  by_cases h : gd N n = nm
  · simp [h, sumV_app, sumV_one]
  · simp [h]
theorem ctN_nn {T : List V4} {N : List ByteArray} {nm : ByteArray} {n : Nat} (hT : ∀ v ∈ T, formed v = true) (hn : n ≤ T.length) : nn (ctN T N nm n) := sumV_nn (by
  intro v hv
  obtain ⟨t, ht, rfl⟩ := List.mem_map.1 hv
  have := List.mem_range.1 (List.mem_filter.1 ht).1
  exact formed_nn (hT _ (gd_mem (by omega))))
theorem ctN_mono {T : List V4} {N : List ByteArray} {nm : ByteArray} {m : Nat} (hT : ∀ v ∈ T, formed v = true) (hm : m ≤ T.length) : ∀ n, n ≤ m → fits (ctN T N nm n) (ctN T N nm m) = true := by
  induction m with
  | zero => intro n hn; have : n = 0 := by omega
            subst this; rw [fits_iff]; omega
  | succ m ih =>
    intro n hn
    by_cases e : n = m + 1
    · subst e; rw [fits_iff]; omega
    · refine fits_trans (ih (by omega) n (by omega)) ?_
      rw [ctN_succ]
      split
      · have h1 := formed_nn (hT _ (gd_mem (show m < T.length by omega)))
        unfold nn at h1
        rw [fits_iff]; simp only [add4]; omega
      · rw [fits_iff]; omega
theorem addR_iff {a b : V4} (ha : formed a = true) (hb : formed b = true) : ((addR a b).2 = 0 ↔ formed (add4 a b) = true) ∧ ((addR a b).2 = 0 → (addR a b).1 = add4 a b) := by
  unfold addR
  rw [ha, hb]
  cases formed (add4 a b) <;> simp
theorem formed_le {a b : V4} (hb : formed b = true) (hn : nn a) (h : fits a b = true) : formed a = true := by
  unfold nn at hn; rw [formed_iff] at *; rw [fits_iff] at h; omega
/-- Who takes of slots: formed tasks, a few, each on a node that is there. -/
structure Stat (T : List V4) (N : List ByteArray) (names : List ByteArray) : Prop where
  t : ∀ v ∈ T, formed v = true
  one : 1 ≤ T.length
  six : T.length ≤ 6
  len : N.length = T.length
  at' : ∀ j, j < T.length → gd N j ∈ names
theorem addGo {T : List V4} {N : List ByteArray} {S : List Slot} (st : Stat T N (nms S)) (hS : ∀ s ∈ S, formed s.2 = true) (hd : dist S) : ∀ n, n ≤ T.length →
    (∀ L, movedGo addR T N n S = some L → L.length = S.length ∧ ∀ i, i < S.length → gd L i = ((gd S i).1, add4 (gd S i).2 (ctN T N (gd S i).1 n)) ∧ formed (add4 (gd S i).2 (ctN T N (gd S i).1 n)) = true) ∧
    ((∀ i, i < S.length → formed (add4 (gd S i).2 (ctN T N (gd S i).1 n)) = true) → ∃ L, movedGo addR T N n S = some L) := by
  intro n
  induction n with
  | zero =>
    intro _
    refine ⟨fun L h => ?_, fun _ => ⟨S, rfl⟩⟩
    cases h
    refine ⟨rfl, fun i hi => ?_⟩
    have e : add4 (gd S i).2 (ctN T N (gd S i).1 0) = (gd S i).2 := by simp [ctN, sumV, add4, z4]
    rw [e]
    exact ⟨rfl, hS _ (gd_mem hi)⟩
  | succ n ih =>
    intro hn
    obtain ⟨ih1, ih2⟩ := ih (by omega)
    have hTn : formed (gd T n) = true := st.t _ (gd_mem (by omega))
    obtain ⟨q, hq, hqn⟩ : ∃ q, q < S.length ∧ (gd S q).1 = gd N n := by
      obtain ⟨s, hs, he⟩ := List.mem_map.1 (st.at' n (by omega))
      obtain ⟨q, hq, rfl⟩ := mem_gd hs
      exact ⟨q, hq, he⟩
    have step : ∀ L, movedGo addR T N n S = some L → movedGo addR T N (n + 1) S = if (addR (gd L q).2 (gd T n)).2 = 0 then some (L.set q ((gd L q).1, (addR (gd L q).2 (gd T n)).1)) else none := by
      intro L hL
      obtain ⟨l1, l2⟩ := ih1 L hL
      have hdL : dist L := dist_names hd l1 (fun i hi => by rw [(l2 i hi).1])
      have hfind : L.findIdx? (fun s => decide (s.1 = gd N n)) = some q := by
        rw [← hqn, show (gd S q).1 = (gd L q).1 from by rw [(l2 q hq).1]]
        exact find_name hdL (by omega)
      conv => lhs; unfold movedGo
      rw [hL]
      dsimp only
      rw [hfind]
    have cts : ∀ i, i < S.length → ctN T N (gd S i).1 (n + 1) = if i = q then add4 (ctN T N (gd S i).1 n) (gd T n) else ctN T N (gd S i).1 n := by
      intro i hi
      rw [ctN_succ]
      by_cases e : i = q
      · subst e; rw [if_pos hqn.symm, if_pos rfl]
      · rw [if_neg e, if_neg]
        rw [← hqn]
        intro e2
        rcases Nat.lt_or_gt_of_ne e with h | h
        · exact hd _ _ h hq e2.symm
        · exact hd _ _ h hi e2
    constructor
    · intro L' h
      cases hg : movedGo addR T N n S with
      | none => unfold movedGo at h; rw [hg] at h; cases h
      | some L =>
        rw [step L hg] at h
        obtain ⟨l1, l2⟩ := ih1 L hg
        obtain ⟨a1, a2⟩ := addR_iff (a := (gd L q).2) (b := gd T n) (by rw [(l2 q hq).1]; exact (l2 q hq).2) hTn
        split at h
        · rename_i hz
          cases h
          refine ⟨by rw [List.length_set]; exact l1, fun i hi => ?_⟩
          rw [gd_set (by omega), cts i hi]
          by_cases e : i = q
          · subst e
            rw [if_pos rfl, if_pos rfl, a2 hz, (l2 i hi).1]
            have hf := a1.1 hz
            rw [(l2 i hi).1] at hf
            dsimp only at hf ⊢
            rw [← add4_assoc]
            exact ⟨rfl, hf⟩
          · rw [if_neg e, if_neg e]
            exact l2 i hi
        · cases h
    · intro hf
      have hf' : ∀ i, i < S.length → formed (add4 (gd S i).2 (ctN T N (gd S i).1 n)) = true := by
        intro i hi
        have h1 := hf i hi
        have h2 := ctN_mono (N := N) (nm := (gd S i).1) st.t (m := n + 1) hn n (by omega)
        have h3 := ctN_nn (N := N) (nm := (gd S i).1) st.t (n := n) (by omega)
        have h4 := formed_nn (hS _ (gd_mem hi))
        refine formed_le h1 ?_ ?_
        · unfold nn at *; simp only [add4]; omega
        · rw [fits_iff] at *; simp only [add4]; omega
      obtain ⟨L, hL⟩ := ih2 hf'
      obtain ⟨l1, l2⟩ := ih1 L hL
      obtain ⟨a1, a2⟩ := addR_iff (a := (gd L q).2) (b := gd T n) (by rw [(l2 q hq).1]; exact (l2 q hq).2) hTn
      have h5 := hf q hq
      rw [cts q hq, if_pos rfl, ← add4_assoc] at h5
      rw [step L hL, if_pos (a1.2 (by rw [(l2 q hq).1]; exact h5))]
      exact ⟨_, rfl⟩
/-- What giving back does, whole. -/
theorem addAll {T : List V4} {N : List ByteArray} {S : List Slot} (hS : ∀ s ∈ S, formed s.2 = true) (hd : dist S) :
    ((movedR addR T N S).2 = 0 ↔ Stat T N (nms S) ∧ ∀ i, i < S.length → formed (add4 (gd S i).2 (ctN T N (gd S i).1 T.length)) = true) ∧
    ((movedR addR T N S).2 = 0 → (movedR addR T N S).1.length = S.length ∧ ∀ i, i < S.length → gd (movedR addR T N S).1 i = ((gd S i).1, add4 (gd S i).2 (ctN T N (gd S i).1 T.length))) := by
  by_cases hw : wrongR T S = 0
  case neg =>
    have e : movedR addR T N S = ([], wrongR T S) := by unfold movedR; rw [if_pos hw]
    rw [e]
    refine ⟨⟨fun h => absurd h hw, fun ⟨st, _⟩ => ?_⟩, fun h => absurd h hw⟩
    exact absurd (wrong0.2 ⟨st.t, hS, hd, st.one, st.six⟩) hw
  obtain ⟨hT, _, _, h1, h6⟩ := wrong0.1 hw
  by_cases hl : N.length = T.length
  case neg =>
    have e : movedR addR T N S = ([], 2) := by unfold movedR; rw [if_neg (by simpa using hw), if_pos hl]
    rw [e]
    exact ⟨⟨fun h => absurd h (by simp), fun ⟨st, _⟩ => absurd st.len hl⟩, fun h => absurd h (by simp)⟩
  by_cases ha : N.any (fun n => !(nms S).contains n) = true
  · have e : movedR addR T N S = ([], 3) := by unfold movedR; rw [if_neg (by simpa using hw), if_neg (by omega), if_pos ha]
    rw [e]
    refine ⟨⟨fun h => absurd h (by simp), fun ⟨st, _⟩ => ?_⟩, fun h => absurd h (by simp)⟩
    rw [List.any_eq_true] at ha
    obtain ⟨x, hx, hc⟩ := ha
    obtain ⟨j, hj, rfl⟩ := mem_gd hx
    have := st.at' j (by omega)
    rw [List.contains_iff_mem.2 this] at hc
    cases hc
  have st : Stat T N (nms S) := ⟨hT, h1, h6, hl, fun j hj => by
    rw [Bool.not_eq_true, List.any_eq_false] at ha
    have := ha (gd N j) (gd_mem (by omega))
    rw [← List.contains_iff_mem]
    simpa using this⟩
  obtain ⟨g1, g2⟩ := addGo st hS hd T.length (Nat.le_refl _)
  have e : movedR addR T N S = match movedGo addR T N T.length S with | none => ([], 7) | some L => (L, 0) := by
    unfold movedR
    rw [if_neg (by simpa using hw), if_neg (by omega), if_neg ha, hl]
    cases movedGo addR T N T.length S <;> rfl
  cases hg : movedGo addR T N T.length S with
  | none =>
    rw [e, hg]
    refine ⟨⟨fun h => absurd h (by simp), fun ⟨_, hf⟩ => ?_⟩, fun h => absurd h (by simp)⟩
    obtain ⟨L, hL⟩ := g2 hf
    rw [hg] at hL; cases hL
  | some L =>
    rw [e, hg]
    obtain ⟨l1, l2⟩ := g1 L hg
    exact ⟨⟨fun _ => ⟨st, fun i hi => (l2 i hi).2⟩, fun _ => rfl⟩, fun _ => ⟨l1, fun i hi => (l2 i hi).1⟩⟩
/-- What victims give back of a node, all together. -/
def vct (v : Vic) (nm : ByteArray) : V4 := ctN v.tasks.xs v.nodes.xs nm v.tasks.xs.length
def tot (W : List Vic) (nm : ByteArray) : V4 := sumV (W.map (fun v => vct v nm))
theorem tot_perm {W W' : List Vic} (h : W.Perm W') (nm : ByteArray) : tot W nm = tot W' nm := sumV_perm (h.map _)
theorem tot_app (W W' : List Vic) (nm : ByteArray) : tot (W ++ W') nm = add4 (tot W nm) (tot W' nm) := by unfold tot; rw [List.map_append, sumV_app]
def statV (v : Vic) (names : List ByteArray) : Prop := Stat v.tasks.xs v.nodes.xs names
theorem vct_nn {v : Vic} {names : List ByteArray} (h : statV v names) (nm : ByteArray) : nn (vct v nm) := ctN_nn h.t (Nat.le_refl _)
theorem tot_nn {W : List Vic} {names : List ByteArray} (h : ∀ v ∈ W, statV v names) (nm : ByteArray) : nn (tot W nm) := sumV_nn (by
  intro x hx
  obtain ⟨v, hv, rfl⟩ := List.mem_map.1 hx
  exact vct_nn (h v hv) nm)
theorem allGo_iff {W : List Vic} {S : List Slot} (hS : ∀ s ∈ S, formed s.2 = true) (hd : dist S) : ∀ k, k ≤ W.length →
    ((allGo W S k).2 = 0 ↔ (∀ v ∈ W.take k, statV v (nms S)) ∧ ∀ i, i < S.length → formed (add4 (gd S i).2 (tot (W.take k) (gd S i).1)) = true) ∧
    ((allGo W S k).2 = 0 → (allGo W S k).1.length = S.length ∧ ∀ i, i < S.length → gd (allGo W S k).1 i = ((gd S i).1, add4 (gd S i).2 (tot (W.take k) (gd S i).1))) := by
  intro k
  induction k with
  | zero =>
    intro _
    have e : ∀ i, add4 (gd S i).2 (tot (W.take 0) (gd S i).1) = (gd S i).2 := fun i => by simp [tot, sumV, add4, z4]
    refine ⟨⟨fun _ => ⟨fun v hv => by simp at hv, fun i hi => by rw [e]; exact hS _ (gd_mem hi)⟩, fun _ => rfl⟩, fun _ => ⟨rfl, fun i hi => by rw [e]; rfl⟩⟩
  | succ k ih =>
    intro hk
    obtain ⟨i1, i2⟩ := ih (by omega)
    have ht : W.take (k + 1) = W.take k ++ [gd W k] := gd_take (by omega)
    have htt : ∀ nm, tot (W.take (k + 1)) nm = add4 (tot (W.take k) nm) (vct (gd W k) nm) := fun nm => by
      rw [ht, tot_app]
      congr 1
      simp [tot, sumV_one]
    have hstep : allGo W S (k + 1) = if (allGo W S k).2 ≠ 0 then allGo W S k else mvV W k (allGo W S k).1 := rfl
    by_cases hz : (allGo W S k).2 = 0
    case neg =>
      rw [hstep, if_pos hz]
      refine ⟨⟨fun h => absurd h hz, fun ⟨q1, q2⟩ => ?_⟩, fun h => absurd h hz⟩
      exfalso
      apply hz
      refine i1.2 ⟨fun v hv => q1 v (by rw [ht]; exact List.mem_append_left _ hv), fun i hi => ?_⟩
      have h1 := q2 i hi
      rw [htt] at h1
      have h2 := tot_nn (W := W.take k) (names := nms S) (fun v hv => q1 v (by rw [ht]; exact List.mem_append_left _ hv)) (gd S i).1
      have h3 := vct_nn (q1 (gd W k) (by rw [ht]; simp)) (gd S i).1
      have h4 := formed_nn (hS _ (gd_mem hi))
      refine formed_le h1 ?_ ?_
      · unfold nn at *; simp only [add4]; omega
      · unfold nn at h3; rw [fits_iff]; simp only [add4]; omega
    rw [hstep, if_neg (by simpa using hz)]
    obtain ⟨l1, l2⟩ := i2 hz
    obtain ⟨f1, f2⟩ := i1.1 hz
    generalize (allGo W S k).1 = L at *
    have hLS : ∀ s ∈ L, formed s.2 = true := by
      intro s hs
      obtain ⟨i, hi, rfl⟩ := mem_gd hs
      rw [l2 i (by omega)]
      exact f2 i (by omega)
    have hLd : dist L := dist_names hd l1 (fun i hi => by rw [l2 i hi])
    have hnm : nms L = nms S := by
      unfold nms
      refine gd_ext (by simp [l1]) (fun j hj => ?_)
      rw [List.length_map] at hj
      rw [gd_map hj, gd_map (by omega), l2 j (by omega)]
    obtain ⟨a1, a2⟩ := addAll (T := (gd W k).tasks.xs) (N := (gd W k).nodes.xs) hLS hLd
    have key : ∀ i, i < S.length → add4 (gd L i).2 (ctN (gd W k).tasks.xs (gd W k).nodes.xs (gd L i).1 (gd W k).tasks.xs.length) = add4 (gd S i).2 (tot (W.take (k + 1)) (gd S i).1) := by
      intro i hi
      rw [l2 i hi, htt]
      show add4 (add4 _ _) (vct (gd W k) (gd S i).1) = _
      rw [add4_assoc]
    constructor
    · show (movedR addR (gd W k).tasks.xs (gd W k).nodes.xs L).2 = 0 ↔ _
      rw [a1, hnm]
      constructor
      · rintro ⟨s1, s2⟩
        refine ⟨fun v hv => ?_, fun i hi => ?_⟩
        · rw [ht] at hv
          rcases List.mem_append.1 hv with h | h
          · exact f1 v h
          · rw [List.mem_singleton] at h; subst h; exact s1
        · rw [← key i hi]; exact s2 i (by omega)
      · rintro ⟨q1, q2⟩
        refine ⟨q1 (gd W k) (by rw [ht]; simp), fun i hi => ?_⟩
        rw [key i (by omega)]; exact q2 i (by omega)
    · intro h
      obtain ⟨b1, b2⟩ := a2 h
      refine ⟨by show (movedR addR _ _ L).1.length = _; rw [b1, l1], fun i hi => ?_⟩
      show gd (movedR addR _ _ L).1 i = _
      rw [b2 i (by omega), key i hi, l2 i hi]
/-- The victims in their turns. -/
def srt (VS : List Vic) : List Vic := (ordV VS).map (gd VS)
theorem srt_perm {VS : List Vic} (hd : distJ VS) : (srt VS).Perm VS := by
  have h1 := (ordV_is hd).pm.map (gd VS)
  have h2 : (List.range VS.length).map (gd VS) = VS := gd_ext (by simp) (fun j hj => by
    rw [List.length_map, List.length_range] at hj
    rw [gd_map (by rw [List.length_range]; exact hj)]
    congr 1
    exact gd_of (by rw [List.getElem?_range hj]))
  rw [h2] at h1
  exact h1
theorem srt_pw {VS : List Vic} (hd : distJ VS) : (srt VS).Pairwise befV := by
  unfold srt
  rw [List.pairwise_map]
  exact (ordV_is hd).pw
theorem srt_same {VS WS : List Vic} (hd : distJ VS) (hd' : distJ WS) (h : VS.Perm WS) : srt VS = srt WS :=
  List.Perm.eq_of_pairwise (fun a b _ _ h1 h2 => absurd h2 (befV_asymm h1)) (srt_pw hd) (srt_pw hd') ((srt_perm hd).trans (h.trans (srt_perm hd').symm))
theorem distJ_nodup {VS : List Vic} : distJ VS ↔ (jobs VS).Nodup := by
  unfold jobs List.Nodup
  rw [List.pairwise_map, List.pairwise_iff_getElem]
  constructor
  · intro h i j hi hj hij
    have := h i j hij hj
    rw [gd_eq hi, gd_eq hj] at this
    exact this
  · intro h i j hij hj
    rw [gd_eq (by omega), gd_eq hj]
    exact h i j (by omega) hj hij
theorem distJ_perm {VS WS : List Vic} (h : VS.Perm WS) (hd : distJ VS) : distJ WS := by
  rw [distJ_nodup] at *
  exact (List.Perm.nodup_iff (show (jobs VS).Perm (jobs WS) from h.map _)).1 hd
/-- The same by the victims themselves. -/
def chV (T : List V4) (pr : Int) : List Vic → List Slot → List Int → List ByteArray × Int → List Int × List ByteArray × Int
  | [], _, g, r => (g, r)
  | v :: l, S, g, r => if r.2 = 6 ∧ v.prio < pr then chV T pr l (movedR addR v.tasks.xs v.nodes.xs S).1 (g ++ [v.job]) (fitR T (movedR addR v.tasks.xs v.nodes.xs S).1) else (g, r)
theorem chGo_chV {T : List V4} {pr : Int} {VS : List Vic} : ∀ (l : List Nat) (S : List Slot) (g : List Int) (r : List ByteArray × Int), chGo T pr VS l S g r = chV T pr (l.map (gd VS)) S g r
  | [], _, _, _ => rfl
  | x :: l, S, g, r => by
    unfold chGo
    rw [List.map_cons]
    unfold chV
    split
    · exact chGo_chV l _ _ _
    · rfl
theorem fit_wrong {T : List V4} {S : List Slot} (h : ¬ ((fitR T S).2 ≠ 0 ∧ (fitR T S).2 ≠ 6)) : wrongR T S = 0 := by
  by_cases hw : wrongR T S = 0
  · exact hw
  · exfalso
    apply h
    have e : (fitR T S).2 = wrongR T S := by unfold fitR; rw [if_pos hw]
    rw [e]
    rcases wrong_vals T S with q | q | ⟨q, _⟩ | q <;> rw [q] <;> simp
    exact hw q
/-- Whose going is right, in words. -/
theorem choose_ok {T : List V4} {pr : Int} {VS : List Vic} {S : List Slot} : (chooseR T pr VS S).2.2 = 0 ↔ wrongR T S = 0 ∧ distJ VS ∧ (allGo VS S VS.length).2 = 0 ∧ (chV T pr (srt VS) S [] (fitR T S)).2.2 = 0 := by
  have e := chGo_chV (T := T) (pr := pr) (VS := VS) (ordV VS) S [] (fitR T S)
  unfold chooseR
  rw [e]
  change _ ↔ _ ∧ _ ∧ _ ∧ _
  by_cases q0 : (fitR T S).2 ≠ 0 ∧ (fitR T S).2 ≠ 6
  · rw [if_pos q0]
    refine ⟨fun h => absurd h q0.1, fun ⟨h, _⟩ => ?_⟩
    exfalso
    unfold fitR at q0
    rw [if_neg (by simpa using h)] at q0
    split at q0 <;> simp at q0
  rw [if_neg q0]
  have hw := fit_wrong q0
  cases hdu : dupJ (jobs VS) VS.length with
  | true =>
    simp only [if_true]
    refine ⟨fun h => absurd h (by simp), fun ⟨_, h, _⟩ => ?_⟩
    rw [dup_iff.2 h] at hdu; cases hdu
  | false =>
    rw [if_neg (by simp)]
    have hd := dup_iff.1 hdu
    by_cases q2 : (allGo VS S VS.length).2 ≠ 0
    · rw [if_pos q2]
      exact ⟨fun h => absurd h q2, fun ⟨_, _, h, _⟩ => absurd h q2⟩
    rw [if_neg q2]
    have q2' : (allGo VS S VS.length).2 = 0 := by simpa using q2
    by_cases q3 : (chV T pr (srt VS) S [] (fitR T S)).2.2 ≠ 0
    · rw [show (ordV VS).map (gd VS) = srt VS from rfl, if_pos q3]
      exact ⟨fun h => absurd h q3, fun ⟨_, _, _, h⟩ => absurd h q3⟩
    · rw [show (ordV VS).map (gd VS) = srt VS from rfl, if_neg q3]
      exact ⟨fun h => ⟨hw, hd, q2', h⟩, fun ⟨_, _, _, h⟩ => h⟩
theorem choose_val {T : List V4} {pr : Int} {VS : List Vic} {S : List Slot} (h : (chooseR T pr VS S).2.2 = 0) : chooseR T pr VS S = chV T pr (srt VS) S [] (fitR T S) := by
  have e := chGo_chV (T := T) (pr := pr) (VS := VS) (ordV VS) S [] (fitR T S)
  unfold chooseR at *
  split at h
  · rename_i q; exact absurd h q.1
  · rename_i q0
    rw [if_neg q0]
    split at h
    · exact absurd h (by simp)
    · rename_i q1
      rw [if_neg q1]
      split at h
      · rename_i q; exact absurd h q
      · rename_i q2
        rw [if_neg q2]
        split at h
        · rename_i q; exact absurd h q
        · rename_i q3
          rw [if_neg q3, e]; rfl
theorem allGo_perm {VS WS : List Vic} {S : List Slot} (hS : ∀ s ∈ S, formed s.2 = true) (hd : dist S) (h : VS.Perm WS) (h0 : (allGo VS S VS.length).2 = 0) : (allGo WS S WS.length).2 = 0 := by
  obtain ⟨a1, _⟩ := allGo_iff (W := VS) hS hd VS.length (Nat.le_refl _)
  obtain ⟨b1, _⟩ := allGo_iff (W := WS) hS hd WS.length (Nat.le_refl _)
  rw [List.take_length] at a1 b1
  obtain ⟨q1, q2⟩ := a1.1 h0
  refine b1.2 ⟨fun v hv => q1 v (h.mem_iff.2 hv), fun i hi => ?_⟩
  rw [← tot_perm h]; exact q2 i hi
/-- The order of what is handed in is nothing. -/
theorem choose_perm {T : List V4} {pr : Int} {VS WS : List Vic} {S : List Slot} (hp : VS.Perm WS) (h : (chooseR T pr VS S).2.2 = 0) : chooseR T pr WS S = chooseR T pr VS S := by
  obtain ⟨hw, hd, ha, hc⟩ := choose_ok.1 h
  obtain ⟨_, hS, hdS, _, _⟩ := wrong0.1 hw
  have hd' := distJ_perm hp hd
  have hsv := srt_same hd hd' hp
  have h' : (chooseR T pr WS S).2.2 = 0 := choose_ok.2 ⟨hw, hd', allGo_perm hS hdS hp ha, by rw [← hsv]; exact hc⟩
  rw [choose_val h, choose_val h', hsv]
/-- Step by step. -/
theorem chV_trace {T : List V4} {pr : Int} {W : List Vic} {S : List Slot} (hall : ∀ k, k ≤ W.length → (allGo W S k).2 = 0) : ∀ (d k : Nat) (g : List Int), k + d = W.length →
    (chV T pr (W.drop k) (allGo W S k).1 g (fitR T (allGo W S k).1)).2.2 = 0 →
    ∃ m, k ≤ m ∧ m ≤ W.length ∧ chV T pr (W.drop k) (allGo W S k).1 g (fitR T (allGo W S k).1) = (g ++ ((W.take m).drop k).map (·.job), fitR T (allGo W S m).1) ∧ (fitR T (allGo W S m).1).2 = 0 ∧ ∀ j, k ≤ j → j < m → (fitR T (allGo W S j).1).2 = 6 ∧ (gd W j).prio < pr := by
  intro d
  induction d with
  | zero =>
    intro k g hk h
    have e : W.drop k = [] := List.drop_of_length_le (by omega)
    rw [e] at h ⊢
    refine ⟨k, Nat.le_refl _, by omega, ?_, h, fun j h1 h2 => by omega⟩
    rw [List.drop_of_length_le (by rw [List.length_take]; omega)]
    simp [chV]
  | succ d ih =>
    intro k g hk h
    have hkl : k < W.length := by omega
    rw [gd_drop hkl] at h ⊢
    unfold chV at h ⊢
    by_cases c : (fitR T (allGo W S k).1).2 = 6 ∧ (gd W k).prio < pr
    · rw [if_pos c] at h ⊢
      have hn : (movedR addR (gd W k).tasks.xs (gd W k).nodes.xs (allGo W S k).1) = allGo W S (k + 1) := by
        show _ = (if (allGo W S k).2 ≠ 0 then _ else mvV W k (allGo W S k).1)
        rw [if_neg (by rw [hall k (by omega)]; simp)]; rfl
      rw [hn] at h ⊢
      obtain ⟨m, m1, m2, m3, m4, m5⟩ := ih (k + 1) (g ++ [(gd W k).job]) (by omega) h
      refine ⟨m, by omega, m2, ?_, m4, fun j h1 h2 => ?_⟩
      · rw [m3]
        have : (W.take m).drop k = gd W k :: (W.take m).drop (k + 1) := by
          rw [gd_drop (by rw [List.length_take]; omega), gd_take_lt (by omega)]
        rw [this]; simp
      · by_cases e : j = k
        · subst e; exact c
        · exact m5 j (by omega) h2
    · rw [if_neg c] at h ⊢
      refine ⟨k, Nat.le_refl _, by omega, ?_, h, fun j h1 h2 => by omega⟩
      rw [List.drop_of_length_le (by rw [List.length_take]; omega)]
      simp
theorem srt_all {VS : List Vic} {S : List Slot} (hd : distJ VS) (hS : ∀ s ∈ S, formed s.2 = true) (hdS : dist S) (h : (allGo VS S VS.length).2 = 0) : ∀ k, k ≤ (srt VS).length → (allGo (srt VS) S k).2 = 0 := by
  have hf := allGo_perm hS hdS (srt_perm hd).symm h
  intro k hk
  cases hz : decide ((allGo (srt VS) S k).2 = 0) with
  | true => exact of_decide_eq_true hz
  | false =>
    have hz' := of_decide_eq_false hz
    have := allGo_stuck hz' _ hk
    rw [this] at hf
    exact hf
end Go.Proofs.Ytjgionnigenijaa
