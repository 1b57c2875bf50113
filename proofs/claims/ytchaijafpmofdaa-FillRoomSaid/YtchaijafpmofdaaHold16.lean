import Derived.Test.YtchaijafpmofdaaOrd16
/-! What is taken of slots: plain lists. -/
namespace Go.Proofs.Ytchaijafpmofdaa
open Go.Sl
set_option linter.unusedVariables false
set_option linter.unusedSimpArgs false

abbrev z4 : V4 := (0, 0, 0, 0)
def sumV : List V4 → V4
  | [] => z4
  | v :: l => add4 v (sumV l)
theorem add4_assoc (a b c : V4) : add4 (add4 a b) c = add4 a (add4 b c) := by simp only [add4, Int.add_assoc]
theorem add4_comm (a b : V4) : add4 a b = add4 b a := by simp only [add4, Int.add_comm]
theorem add4_zero (a : V4) : add4 a z4 = a := by simp [add4, z4]
theorem sumV_app (a b : List V4) : sumV (a ++ b) = add4 (sumV a) (sumV b) := by
  induction a with
  | nil => simp [sumV, add4, z4]
  | cons x a ih => simp only [List.cons_append, sumV, ih, add4_assoc]
theorem sumV_perm {a b : List V4} (h : a.Perm b) : sumV a = sumV b := by
  induction h with
  | nil => rfl
  | cons x _ ih => simp only [sumV, ih]
  | swap x y l => simp only [sumV]; rw [← add4_assoc, ← add4_assoc, add4_comm x y]
  | trans _ _ h1 h2 => exact h1.trans h2
def nn (v : V4) : Prop := 0 ≤ v.1 ∧ 0 ≤ v.2.1 ∧ 0 ≤ v.2.2.1 ∧ 0 ≤ v.2.2.2
theorem formed_nn {v : V4} (h : formed v = true) : nn v := by rw [formed_iff] at h; unfold nn; omega
theorem sumV_nn {l : List V4} (h : ∀ v ∈ l, nn v) : nn (sumV l) := by
  induction l with
  | nil => simp [sumV, nn, z4]
  | cons v l ih =>
    have h1 := h v (List.mem_cons_self ..)
    have h2 := ih (fun x hx => h x (List.mem_cons_of_mem _ hx))
    unfold nn at *
    simp only [sumV, add4]
    omega
theorem fits_sub {a b : V4} {c : V4} : fits c (sub4 a b) = true ↔ fits (add4 b c) a = true := by
  rw [fits_iff, fits_iff]; simp only [sub4, add4]; omega
theorem sub_formed {a b : V4} (ha : formed a = true) (hb : formed b = true) (h : fits b a = true) : formed (sub4 a b) = true := by
  rw [formed_iff] at *; rw [fits_iff] at h; simp only [sub4]; omega
theorem subR_ok {a b : V4} (ha : formed a = true) (hb : formed b = true) (h : fits b a = true) : subR a b = (sub4 a b, 0) := by simp [subR, ha, hb, h]

/-- The tasks that g puts on slot i. -/
def onS (T : List V4) (l : List Nat) (g : Nat → Nat) (i : Nat) : List V4 := (l.filter (fun t => g t == i)).map (gd T)
theorem onS_cons {T : List V4} {t : Nat} {l : List Nat} {g : Nat → Nat} {i : Nat} : onS T (t :: l) g i = if g t = i then gd T t :: onS T l g i else onS T l g i := by
  unfold onS
  rw [List.filter_cons]
  by_cases h : g t = i
  · simp [h]
  · simp [h]
theorem onS_congr {T : List V4} {l : List Nat} {g g' : Nat → Nat} {i : Nat} (h : ∀ t ∈ l, g t = g' t) : onS T l g i = onS T l g' i := by
  unfold onS
  congr 1
  exact List.filter_congr (fun t ht => by rw [h t ht])
theorem fitGo_spec (T : List V4) : ∀ (l : List Nat) (L : List Slot) (N N' : List ByteArray), l.Nodup → (∀ t ∈ l, t < N.length) → (∀ t ∈ l, formed (gd T t) = true) → (∀ s ∈ L, formed s.2 = true) → fitGo T l L N = some N' →
    N'.length = N.length ∧ (∀ t, t ∉ l → gd N' t = gd N t) ∧ ∃ g : Nat → Nat, (∀ t ∈ l, g t < L.length ∧ gd N' t = (gd L (g t)).1) ∧ ∀ i, i < L.length → fits (sumV (onS T l g i)) (gd L i).2 = true
  | [], L, N, N', _, _, _, hL, h => by
    cases h
    refine ⟨rfl, fun _ _ => rfl, fun _ => 0, (by intro t ht; simp at ht), fun i hi => ?_⟩
    have := formed_nn (hL _ (gd_mem hi))
    unfold nn at this
    rw [fits_iff]
    simp [onS, sumV, z4]; omega
  | t :: r, L, N, N', hnd, hlt, hT, hL, h => by
    unfold fitGo at h
    rw [List.nodup_cons] at hnd
    cases hk : L.findIdx? (fun s => fits (gd T t) s.2) with
    | none => rw [hk] at h; cases h
    | some k =>
      rw [hk] at h
      rw [List.findIdx?_eq_some_iff_getElem] at hk
      obtain ⟨hk1, hk2, _⟩ := hk
      rw [← gd_eq hk1] at hk2
      have hTt := hT t (List.mem_cons_self ..)
      have hLk := hL _ (gd_mem hk1)
      have hL' : ∀ s ∈ L.set k ((gd L k).1, sub4 (gd L k).2 (gd T t)), formed s.2 = true := by
        intro s hs
        rcases List.mem_or_eq_of_mem_set hs with h' | h'
        · exact hL s h'
        · rw [h']; exact sub_formed hLk hTt hk2
      obtain ⟨e1, e2, g, e3, e4⟩ := fitGo_spec T r _ _ N' hnd.2 (fun x hx => by rw [List.length_set]; exact hlt x (List.mem_cons_of_mem _ hx)) (fun x hx => hT x (List.mem_cons_of_mem _ hx)) hL' h
      rw [List.length_set] at e1
      simp only [List.length_set] at e3 e4
      have hg : ∀ x ∈ r, (if x = t then k else g x) = g x := fun x hx => by rw [if_neg]; rintro rfl; exact hnd.1 hx
      refine ⟨e1, ?_, fun x => if x = t then k else g x, ?_, ?_⟩
      · intro x hx
        rw [List.mem_cons, not_or] at hx
        rw [e2 x hx.2, gd_set_ne hx.1]
      · intro x hx
        by_cases hxt : x = t
        · subst hxt
          dsimp only
          rw [if_pos rfl]
          refine ⟨hk1, ?_⟩
          rw [e2 x hnd.1, gd_set_self (hlt x (List.mem_cons_self ..))]
        · dsimp only
          rw [if_neg hxt]
          have hxr : x ∈ r := (List.mem_cons.1 hx).resolve_left hxt
          obtain ⟨q1, q2⟩ := e3 x hxr
          refine ⟨q1, ?_⟩
          rw [q2, gd_set hk1]
          split
          · rename_i q; rw [q]
          · rfl
      · intro i hi
        have h5 := e4 i hi
        rw [gd_set hk1] at h5
        rw [onS_cons, if_pos rfl, onS_congr (i := i) hg]
        by_cases hik : i = k
        · subst hik
          rw [if_pos rfl] at h5 ⊢
          rw [fits_sub] at h5
          exact h5
        · rw [if_neg (fun e => hik e.symm)]
          rw [if_neg hik] at h5
          exact h5
/-- Where a gang finds room: each task's slot. -/
theorem fitR_spec {T : List V4} {S : List Slot} (h : (fitR T S).2 = 0) : wrongR T S = 0 ∧ (fitR T S).1.length = T.length ∧ ∃ g : Nat → Nat, (∀ t, t < T.length → g t < S.length ∧ gd (fitR T S).1 t = (gd S (g t)).1) ∧ ∀ i, i < S.length → fits (sumV (onS T (List.range T.length) g i)) (gd S i).2 = true := by
  unfold fitR at *
  by_cases hw : wrongR T S = 0
  case neg => rw [if_pos hw] at h; exact absurd h hw
  rw [if_neg (by simpa using hw)] at *
  have hun : unf T S S.length = false := by
    unfold wrongR at hw
    cases hu : unf T S S.length with
    | false => rfl
    | true => rw [hu, if_pos rfl] at hw; cases hw
  have hTf : ∀ v ∈ T, formed v = true := by
    intro v hv
    unfold unf at hun
    rw [Bool.or_eq_false_iff, List.any_eq_false] at hun
    have := hun.1 v hv
    simpa using this
  have hSf : ∀ s ∈ S, formed s.2 = true := by
    intro v hv
    unfold unf at hun
    rw [Bool.or_eq_false_iff, List.take_length, List.any_eq_false, List.any_eq_false] at hun
    have := hun.2 v hv
    simpa using this
  cases hf : fitGo T (ordL T) S (List.replicate T.length emptyS) with
  | none => rw [hf] at h; simp at h
  | some N =>
    rw [hf] at h
    have io := ordL_is T
    obtain ⟨e1, e2, g, e3, e4⟩ := fitGo_spec T _ _ _ _ io.nodup (fun t ht => by rw [List.length_replicate]; exact io.mem.1 ht) (fun t ht => hTf _ (gd_mem (io.mem.1 ht))) hSf hf
    rw [List.length_replicate] at e1
    refine ⟨hw, e1, g, fun t ht => e3 t (io.mem.2 ht), fun i hi => ?_⟩
    have := e4 i hi
    have hp : (onS T (List.range T.length) g i).Perm (onS T (ordL T) g i) := (io.pm.symm.filter _).map _
    rw [sumV_perm hp]; exact this
end Go.Proofs.Ytchaijafpmofdaa
