import Derived.Test.YtchaijafpmofdaaFlC
/-! What a line holds over time: plain. -/
namespace Go.Proofs.Ytchaijafpmofdaa
open Go.Sl
set_option linter.unusedVariables false
set_option linter.unusedSimpArgs false
set_option maxRecDepth 100000

instance : Inhabited RunV := ⟨⟨0, 0, [], []⟩⟩
theorem onN_split {T : List V4} {N : List ByteArray} {n : Nat} {nm : ByteArray} (hT : ∀ v ∈ T, formed v = true) : ∀ d, n + d ≤ T.length → ∃ l, onN T N (n + d) nm = onN T N n nm ++ l ∧ ∀ v ∈ l, nn v
  | 0, _ => ⟨[], by simp, by simp⟩
  | d + 1, h => by
    obtain ⟨l, e1, e2⟩ := onN_split (n := n) (N := N) (nm := nm) hT d (by omega)
    rw [← Nat.add_assoc, onN_succ, e1]
    split
    · refine ⟨l ++ [gd T (n + d)], by rw [List.append_assoc], fun v hv => ?_⟩
      rcases List.mem_append.1 hv with hv | hv
      · exact e2 v hv
      · rw [List.mem_singleton] at hv; rw [hv]; exact formed_nn (hT _ (gd_mem (by omega)))
    · exact ⟨l, by rw [List.append_nil], e2⟩
theorem onN_len (T : List V4) (N : List ByteArray) (nm : ByteArray) : ∀ n, (onN T N n nm).length ≤ n
  | 0 => Nat.le_refl _
  | n + 1 => by
    have := onN_len T N nm n
    rw [onN_succ]
    split <;> simp <;> omega
theorem gotN_app (a b : List RunV) (nm : ByteArray) : gotN (a ++ b) nm = gotN a nm ++ gotN b nm := List.flatMap_append
theorem gotN_cons (r : RunV) (l : List RunV) (nm : ByteArray) : gotN (r :: l) nm = onN r.T r.N r.T.length nm ++ gotN l nm := rfl
theorem gotN_one (r : RunV) (nm : ByteArray) : gotN [r] nm = onN r.T r.N r.T.length nm := by rw [gotN_cons]; exact List.append_nil _
theorem gotN_form {S : List Slot} {rs : List RunV} (h : ∀ r ∈ rs, RunOk S r) (nm : ByteArray) : ∀ v ∈ gotN rs nm, nn v := by
  intro v hv
  obtain ⟨r, hr, hv⟩ := List.mem_flatMap.1 hv
  exact onN_form (h r hr).form (Nat.le_refl _) v hv
theorem gotN_len {S : List Slot} : ∀ {rs : List RunV} (_ : ∀ r ∈ rs, RunOk S r) (nm : ByteArray), (gotN rs nm).length ≤ 6 * rs.length
  | [], _, _ => Nat.le_refl _
  | r :: rs, h, nm => by
    have h1 := gotN_len (rs := rs) (fun x hx => h x (List.mem_cons_of_mem _ hx)) nm
    have h2 := onN_len r.T r.N nm r.T.length
    have h3 := (h r List.mem_cons_self).six
    rw [gotN_cons, List.length_append, List.length_cons]
    omega
theorem gotN_sub {S : List Slot} {l rs : List RunV} (h : l.Sublist rs) (hok : ∀ r ∈ rs, RunOk S r) (nm : ByteArray) : fits (sumV (gotN l nm)) (sumV (gotN rs nm)) = true := by
  induction h with
  | slnil => rw [fits_iff]; omega
  | cons a h ih =>
    have h1 := ih (fun x hx => hok x (List.mem_cons_of_mem _ hx))
    have h2 := sumV_nn (onN_form (N := a.N) (nm := nm) (hok a List.mem_cons_self).form (Nat.le_refl _))
    rw [gotN_cons, sumV_app]
    rw [fits_iff] at *
    unfold nn at h2
    simp only [add4]; omega
  | cons_cons a h ih =>
    have h1 := ih (fun x hx => hok x (List.mem_cons_of_mem _ hx))
    rw [gotN_cons, gotN_cons, sumV_app, sumV_app]
    rw [fits_iff] at *
    simp only [add4]; omega
/-- What is taken on a node when m runs and j tasks of the next are done. -/
def takP (now : Int) (rs : List RunV) (m j : Nat) (nm : ByteArray) : List (Int × V4) := takN now (rs.take m) nm ++ (onN (gd rs m).T (gd rs m).N j nm).map (fun v => (endR now (gd rs m), v))
theorem takP_zero (now : Int) (rs : List RunV) (m : Nat) (nm : ByteArray) : takP now rs m 0 nm = takN now (rs.take m) nm := List.append_nil _
theorem takP_full {now : Int} {rs : List RunV} {m : Nat} (h : m < rs.length) (nm : ByteArray) : takP now rs m (gd rs m).T.length nm = takN now (rs.take (m + 1)) nm := by
  unfold takP takN
  rw [gd_take h, List.flatMap_append]
  congr 1
  rw [List.flatMap_cons]
  exact (List.append_nil _).symm
theorem takP_succ (now : Int) (rs : List RunV) (m j : Nat) (nm : ByteArray) : takP now rs m (j + 1) nm = takP now rs m j nm ++ (if gd (gd rs m).N j = nm then [(endR now (gd rs m), gd (gd rs m).T j)] else []) := by
  unfold takP
  rw [onN_succ, List.map_append, List.append_assoc]
  split <;> rfl
theorem takP_snd (now : Int) (rs : List RunV) (m j : Nat) (nm : ByteArray) : (takP now rs m j nm).map Prod.snd = gotN (rs.take m) nm ++ onN (gd rs m).T (gd rs m).N j nm := by
  unfold takP
  rw [List.map_append, takN_snd, List.map_map]
  congr 1
  exact List.map_id' _
theorem takP_len {now : Int} {S : List Slot} {rs : List RunV} (hok : ∀ r ∈ rs, RunOk S r) {m j : Nat} (hm : m < rs.length) (hj : j ≤ (gd rs m).T.length) (nm : ByteArray) : (takP now rs m j nm).length ≤ 6 * rs.length := by
  have h1 : (takP now rs m j nm).length = ((takP now rs m j nm).map Prod.snd).length := by rw [List.length_map]
  rw [h1, takP_snd, List.length_append]
  have h2 := gotN_len (rs := rs.take m) (S := S) (fun r hr => hok r (List.mem_of_mem_take hr)) nm
  have h3 := onN_len (gd rs m).T (gd rs m).N nm j
  have h4 := (hok _ (gd_mem hm)).six
  rw [List.length_take] at h2
  omega
theorem takP_fits {now : Int} {S : List Slot} {rs : List RunV} {f : V4} (hok : ∀ r ∈ rs, RunOk S r) {m j : Nat} (hm : m < rs.length) (hj : j < (gd rs m).T.length) {nm : ByteArray} (hnm : gd (gd rs m).N j = nm) (hf : nn f) :
    fits (add4 (sumV ((takP now rs m j nm).map Prod.snd)) (gd (gd rs m).T j)) (add4 f (sumV (gotN rs nm))) = true := by
  obtain ⟨l, e1, e2⟩ := onN_split (N := (gd rs m).N) (n := j + 1) (nm := nm) (hok _ (gd_mem hm)).form ((gd rs m).T.length - (j + 1)) (by omega)
  rw [show j + 1 + ((gd rs m).T.length - (j + 1)) = (gd rs m).T.length by omega, onN_succ, if_pos hnm] at e1
  have e3 : gotN rs nm = gotN (rs.take m) nm ++ (((onN (gd rs m).T (gd rs m).N j nm ++ [gd (gd rs m).T j]) ++ l) ++ gotN (rs.drop (m + 1)) nm) := by
    rw [← e1, ← gotN_cons, ← gotN_app, ← gd_drop hm, List.take_append_drop]
  have h1 := sumV_nn e2
  have h2 := sumV_nn (gotN_form (rs := rs.drop (m + 1)) (fun r hr => hok r (List.mem_of_mem_drop hr)) nm)
  rw [takP_snd, e3, sumV_app, sumV_app, sumV_app, sumV_app, sumV_app, sumV_one]
  unfold nn at h1 h2 hf
  rw [fits_iff]
  simp only [add4]
  omega
/-- The profiles of a line, when V is taken. -/
structure LnInv (now : Int) (S W : List Slot) (PS : List PfC) (V : ByteArray → List (Int × V4)) : Prop where
  len : PS.length = S.length
  c : ∀ i, i < S.length → (gd PS i).c = (gd W i).2
  at' : ∀ i, i < S.length → Taken (gd W i).2 now (gd PS i).L (gd PS i).k (V (gd S i).1)
theorem LnInv.weak {now : Int} {S W : List Slot} {PS : List PfC} {V V' : ByteArray → List (Int × V4)} (h : LnInv now S W PS V) (e : ∀ nm, V nm = V' nm) : LnInv now S W PS V' := ⟨h.len, h.c, fun i hi => by rw [← e]; exact h.at' i hi⟩
theorem LnInv.ok {now : Int} {S W : List Slot} {PS : List PfC} {V : ByteArray → List (Int × V4)} (h : LnInv now S W PS V) : ∀ i, i < PS.length → rising (gd PS i).L ∧ (gd PS i).L.length ≤ 1000000 := fun i hi => by
  have h1 := (h.at' i (by rw [← h.len]; exact hi)).inv
  exact ⟨rising_iff.2 h1.ris, by have := h1.len; have := h1.few; omega⟩
theorem LnInv.take {now : Int} {S W : List Slot} {PS : List PfC} {V : ByteArray → List (Int × V4)} (h : LnInv now S W PS V) (hd : dist S) {q : Nat} (hq : q < S.length) {e : Int} {v : V4} (h0 : 0 ≤ now) (h1 : now < e) (h2 : e ≤ 1099511627776) (hv : formed v = true)
    (hw : (V (gd S q).1).length < 4096) (hf : fits (add4 (sumV ((V (gd S q).1).map Prod.snd)) v) (gd W q).2 = true) :
    takeE (gd PS q).c (gd PS q).L (gd PS q).k now e v = 0 ∧ ∀ a' cap', LnInv now S W (PS.set q ⟨(gd PS q).pb, (gd PS q).c, a', cap', (gd PS q).k + 1, lessL (gd PS q).c (gd PS q).L now e v⟩) (fun nm => V nm ++ (if (gd S q).1 = nm then [(e, v)] else [])) := by
  have hql : q < PS.length := by rw [h.len]; exact hq
  obtain ⟨t1, t2⟩ := (h.at' q hq).take h0 h1 h2 hv hw hf
  rw [h.c q hq]
  refine ⟨t1, fun a' cap' => ⟨by rw [List.length_set]; exact h.len, fun i hi => ?_, fun i hi => ?_⟩⟩
  · rw [gd_set hql]
    by_cases z : i = q
    · rw [if_pos z, z]
    · rw [if_neg z]; exact h.c i hi
  · rw [gd_set hql]
    by_cases z : i = q
    · subst z
      rw [if_pos rfl]
      try dsimp only
      rw [if_pos rfl]
      exact t2
    · rw [if_neg z]
      try dsimp only
      have hne : ¬ (gd S q).1 = (gd S i).1 := fun y => by
        rcases Nat.lt_or_gt_of_ne z with w | w
        · exact hd i q w hq y.symm
        · exact hd q i w hi y
      rw [if_neg hne, List.append_nil]
      exact h.at' i hi
/-- The slots at a tick: what was free, and what has ended. -/
def atR (now t : Int) (rs : List RunV) (S : List Slot) : List Slot := S.map (fun s => (s.1, add4 s.2 (sumV (gotN (rs.filter (fun r => decide (endR now r ≤ t))) s.1))))
theorem atR_len (now t : Int) (rs : List RunV) (S : List Slot) : (atR now t rs S).length = S.length := by unfold atR; rw [List.length_map]
theorem atR_gave (now t : Int) (rs : List RunV) (S : List Slot) : Gave S (atR now t rs S) (gotN (rs.filter (fun r => decide (endR now r ≤ t)))) := ⟨atR_len _ _ _ _, fun i hi => by unfold atR; rw [gd_map hi]⟩
theorem Gave.eq {S L L' : List Slot} {g : ByteArray → List V4} (h : Gave S L g) (h' : Gave S L' g) : L = L' := gd_ext (by rw [h.len, h'.len]) (fun k hk => by
  have hk' : k < S.length := by rw [← h.len]; exact hk
  rw [h.at' k hk', h'.at' k hk'])
theorem atR_now (now : Int) (rs : List RunV) (S : List Slot) : atR now now rs S = S := by
  have e : rs.filter (fun r => decide (endR now r ≤ now)) = [] := by
    rw [List.filter_eq_nil_iff]
    intro r _ hq
    have h1 : now + 1 ≤ endR now r := Int.le_max_right _ _
    have h2 := of_decide_eq_true hq
    omega
  refine (atR_gave now now rs S).eq ?_
  rw [e]
  exact ⟨rfl, fun i hi => by show gd S i = ((gd S i).1, add4 (gd S i).2 z4); rw [add4_zero]⟩
theorem line_at {now t : Int} {S W : List Slot} {rs : List RunV} {PS : List PfC} (h : LnInv now S W PS (takN now rs)) (hg : Gave S W (gotN rs)) (ht : now ≤ t) : atL S PS t = atR now t rs S := by
  refine gd_ext (by rw [atL_len, atR_len]) (fun i hi => ?_)
  rw [atL_len] at hi
  rw [atL_gd hi, (atR_gave now t rs S).at' i hi, h.c i hi]
  have h1 := h.at' i hi
  rw [hg.at' i hi] at h1 ⊢
  dsimp only at h1 ⊢
  rw [taken_free h1 ht]
end Go.Proofs.Ytchaijafpmofdaa
