import Derived.Test.YtchaijafpmofdaaFlD
/-! When a gang starts: plain. -/
namespace Go.Proofs.Ytchaijafpmofdaa
open Go.Sl
set_option linter.unusedVariables false
set_option linter.unusedSimpArgs false
set_option maxRecDepth 100000

theorem fitR_06 {T : List V4} {S : List Slot} (h : wrongR T S = 0) : (fitR T S).2 = 0 ∨ ((fitR T S).2 = 6 ∧ (fitR T S).1 = []) := by
  unfold fitR
  rw [if_neg (by simpa using h)]
  split
  · exact .inr ⟨rfl, rfl⟩
  · exact .inl rfl
theorem fitR_wrong {T : List V4} {S : List Slot} (h : wrongR T S ≠ 0) : fitR T S = ([], wrongR T S) := by
  unfold fitR
  rw [if_pos h]
theorem wrongR_ne6 (T : List V4) (S : List Slot) : wrongR T S ≠ 6 := by
  unfold wrongR
  split
  · decide
  · split
    · decide
    · split <;> decide
theorem rightR_eq (now : Int) (T : List V4) (RS : List RunT) (S : List Slot) : rightR now T RS S = if badR now RS = true then 2 else wrongR T S := by
  unfold rightR
  by_cases hb : badR now RS = true
  · rw [if_pos hb, if_pos hb]
  · rw [if_neg hb, if_neg hb]
    by_cases h : wrongR T S = 0
    · rcases fitR_06 h with q | q
      · rw [q, h]; rfl
      · rw [q.1, h]; rfl
    · rw [fitR_wrong h, if_neg (wrongR_ne6 T S)]
/-- Slots and runs that are right. -/
structure Fine (T : List V4) (S : List Slot) (rs : List RunV) : Prop where
  w : wrongR T S = 0
  g : ∃ W, givR rs S = (W, 0)
section
variable {T : List V4} {S : List Slot} {rs : List RunV} {now t : Int}
theorem Fine.dist (h : Fine T S rs) : Go.Proofs.Ytchaijafpmofdaa.dist S := (wrong0.1 h.w).2.2.1
theorem Fine.form (h : Fine T S rs) : ∀ i, i < S.length → formed (gd S i).2 = true := fun i hi => (wrong0.1 h.w).2.1 _ (gd_mem hi)
theorem Fine.ok (h : Fine T S rs) : ∀ r ∈ rs, RunOk S r := by
  obtain ⟨W, hW⟩ := h.g
  exact (giv_spec h.dist h.form hW).2.2
theorem Fine.sub (h : Fine T S rs) {l : List RunV} (hl : l.Sublist rs) : ∀ i, i < S.length → formed (add4 (gd S i).2 (sumV (gotN l (gd S i).1))) = true := fun i hi => by
  obtain ⟨W, hW⟩ := h.g
  obtain ⟨g1, g2, g3⟩ := giv_spec h.dist h.form hW
  have h1 := g2 i hi
  rw [g1.at' i hi] at h1
  have h2 := gotN_sub hl g3 (gd S i).1
  refine formed_le (add_nn (formed_nn (h.form i hi)) (sumV_nn (gotN_form (rs := l) (fun r hr => g3 r (hl.subset hr)) _))) ?_ h1
  rw [fits_iff] at *
  simp only [add4]; omega
theorem sub_ft (p : RunV → Bool) (k : Nat) : ((rs.take k).filter p).Sublist rs := List.filter_sublist.trans (List.take_sublist k rs)
theorem Fine.at_form (h : Fine T S rs) (k : Nat) : ∀ i, i < S.length → formed (gd (atR now t (rs.take k) S) i).2 = true := fun i hi => by
  rw [(atR_gave now t (rs.take k) S).at' i hi]
  exact h.sub (sub_ft _ k) i hi
theorem Fine.at_wrong (h : Fine T S rs) : wrongR T (atR now t rs S) = 0 := by
  obtain ⟨w1, w2, w3, w4, w5⟩ := wrong0.1 h.w
  refine wrong0.2 ⟨w1, fun s hs => ?_, (atR_gave now t rs S).dist w3, w4, w5⟩
  obtain ⟨i, hi, rfl⟩ := mem_gd hs
  rw [atR_len] at hi
  have := h.at_form (now := now) (t := t) rs.length i hi
  rw [List.take_length] at this
  exact this
theorem Fine.fit06 (h : Fine T S rs) : (fitR T (atR now t rs S)).2 = 0 ∨ ((fitR T (atR now t rs S)).2 = 6 ∧ (fitR T (atR now t rs S)).1 = []) := fitR_06 h.at_wrong
theorem filt_succ {k : Nat} (hk : k < rs.length) (p : RunV → Bool) : (rs.take (k + 1)).filter p = (rs.take k).filter p ++ (if p (gd rs k) = true then [gd rs k] else []) := by
  rw [gd_take hk, List.filter_append]
  congr 1
  by_cases h : p (gd rs k) = true
  · rw [if_pos h, List.filter_cons_of_pos h]; rfl
  · rw [if_neg h, List.filter_cons_of_neg h]; rfl
theorem Fine.stay (h : Fine T S rs) {k : Nat} (hk : k < rs.length) (he : ¬ endR now (gd rs k) ≤ t) : atR now t (rs.take (k + 1)) S = atR now t (rs.take k) S := by
  unfold atR
  rw [filt_succ hk, if_neg (by simpa using he), List.append_nil]
theorem Fine.step (h : Fine T S rs) {k : Nat} (hk : k < rs.length) (he : endR now (gd rs k) ≤ t) : movedR addR (gd rs k).T (gd rs k).N (atR now t (rs.take k) S) = (atR now t (rs.take (k + 1)) S, 0) := by
  have hL := atR_gave now t (rs.take k) S
  have hr := h.ok _ (gd_mem hk)
  have hrL := hr.back hL
  have hdL := hL.dist h.dist
  have hfL : ∀ i, i < (atR now t (rs.take k) S).length → formed (gd (atR now t (rs.take k) S) i).2 = true := fun i hi => h.at_form k i (by rw [← hL.len]; exact hi)
  have hft := filt_succ hk (fun r => decide (endR now r ≤ t))
  rw [if_pos (by simpa using he)] at hft
  have hgot : ∀ nm, gotN ((rs.take (k + 1)).filter (fun r => decide (endR now r ≤ t))) nm = gotN ((rs.take k).filter (fun r => decide (endR now r ≤ t))) nm ++ onN (gd rs k).T (gd rs k).N (gd rs k).T.length nm := fun nm => by
    rw [hft, gotN_app, gotN_one]
  have hb : ∀ i, i < (atR now t (rs.take k) S).length → formed (add4 (gd (atR now t (rs.take k) S) i).2 (sumV (onN (gd rs k).T (gd rs k).N (gd rs k).T.length (gd (atR now t (rs.take k) S) i).1))) = true := fun i hi => by
    have hi' : i < S.length := by rw [← hL.len]; exact hi
    rw [hL.at' i hi']
    dsimp only
    rw [add4_assoc, ← sumV_app, ← hgot]
    exact h.sub (sub_ft _ (k + 1)) i hi'
  have hro : RunOk (atR now t (rs.take k) S) ⟨0, 0, (gd rs k).T, (gd rs k).N⟩ := ⟨hrL.form, hrL.len, hrL.one, hrL.six, hrL.has⟩
  obtain ⟨L', hL'⟩ := bef_ok hdL hro hfL hb (gd rs k).T.length (Nat.le_refl _)
  obtain ⟨b1, b2, b3, b4⟩ := bef_go hdL hL'
  have hm : movedR addR (gd rs k).T (gd rs k).N (atR now t (rs.take k) S) = (L', 0) := by
    unfold movedR
    have hw : wrongR (gd rs k).T (atR now t (rs.take k) S) = 0 := wrong0.2 ⟨hr.form, fun s hs => by
      obtain ⟨i, hi, rfl⟩ := mem_gd hs
      exact hfL i hi, hdL, hr.one, hr.six⟩
    have hany : (gd rs k).N.any (fun n => !(nms (atR now t (rs.take k) S)).contains n) = false := by
      rw [List.any_eq_false]
      intro x hx
      obtain ⟨j, hj, rfl⟩ := mem_gd hx
      obtain ⟨i, hi, e⟩ := hrL.has j (by rw [← hr.len]; exact hj)
      have : (nms (atR now t (rs.take k) S)).contains (gd (gd rs k).N j) = true := by
        rw [List.contains_iff_mem, ← e]
        exact List.mem_map.2 ⟨_, gd_mem hi, rfl⟩
      rw [this]; simp
    rw [if_neg (by simpa using hw), if_neg (by rw [hr.len]; simp), if_neg (by rw [hany]; simp), hr.len, hL']
  rw [hm]
  have hg2 : Gave S L' (gotN ((rs.take (k + 1)).filter (fun r => decide (endR now r ≤ t)))) := by
    have := gave_trans hL ⟨b1, b2⟩
    exact ⟨this.len, fun i hi => by rw [this.at' i hi, hgot]⟩
  rw [hg2.eq (atR_gave now t (rs.take (k + 1)) S)]
/-- The ticks at which a line is looked at. -/
def Tk (now : Int) (rs : List RunV) (t : Int) : Prop := t = now ∨ ∃ r ∈ rs, t = endR now r
theorem Tk.le {u : Int} (h : Tk now rs u) : now ≤ u := by
  rcases h with rfl | ⟨r, _, rfl⟩
  · exact Int.le_refl _
  · have : now + 1 ≤ endR now r := Int.le_max_right _ _
    omega
abbrev Afit (now : Int) (T : List V4) (S : List Slot) (rs : List RunV) (t : Int) : List ByteArray × Int := fitR T (atR now t rs S)
/-- What a gang's start is. -/
def StartIs (now : Int) (T : List V4) (S : List Slot) (rs : List RunV) (r : Int × List ByteArray × Int) : Prop :=
  (∃ t, Tk now rs t ∧ (Afit now T S rs t).2 = 0 ∧ (∀ u, Tk now rs u → u < t → (Afit now T S rs u).2 = 6) ∧ r = (t, (Afit now T S rs t).1, 0)) ∨ ((∀ u, Tk now rs u → (Afit now T S rs u).2 = 6) ∧ r = (0, [], 6))
theorem StartIs.uniq {r r' : Int × List ByteArray × Int} (h : StartIs now T S rs r) (h' : StartIs now T S rs r') : r = r' := by
  rcases h with ⟨t, t1, t2, t3, rfl⟩ | ⟨t3, rfl⟩
  · rcases h' with ⟨u, u1, u2, u3, rfl⟩ | ⟨u3, rfl⟩
    · have e : t = u := by
        rcases Int.lt_trichotomy t u with q | q | q
        · have := u3 t t1 q; omega
        · exact q
        · have := t3 u u1 q; omega
      rw [e]
    · have := u3 t t1; omega
  · rcases h' with ⟨u, u1, u2, u3, rfl⟩ | ⟨u3, rfl⟩
    · have := t3 u u1; omega
    · rfl
theorem line_start {W : List Slot} {PS : List PfC} {Y : List Int} {r : Int × List ByteArray × Int} (h : Fine T S rs) (hL : LnInv now S W PS (takN now rs)) (hW : givR rs S = (W, 0)) (hup : ∀ a b, a < b → b < Y.length → gd Y a < gd Y b) (hm : ∀ t, t ∈ Y ↔ Tk now rs t) (hr : LnIs T S PS Y r) : StartIs now T S rs r := by
  have hg := (giv_spec h.dist h.form hW).1
  have hat : ∀ i, i < Y.length → atL S PS (gd Y i) = atR now (gd Y i) rs S := fun i hi => line_at hL hg ((hm _).1 (gd_mem hi)).le
  rcases hr with ⟨i, hi, h1, h2, rfl⟩ | ⟨h1, rfl⟩
  · rw [hat i hi] at h2 ⊢
    have h0 : (fitR T (atR now (gd Y i) rs S)).2 = 0 := by
      rcases h.fit06 (now := now) (t := gd Y i) with q | q
      · exact q
      · exact absurd q.1 h2
    refine .inl ⟨gd Y i, (hm _).1 (gd_mem hi), h0, fun u hu hlt => ?_, by rw [Prod.mk.injEq]; exact ⟨rfl, Prod.ext rfl h0⟩⟩
    obtain ⟨j, hj, rfl⟩ := mem_gd ((hm u).2 hu)
    have hji : j < i := by
      rcases Nat.lt_or_ge j i with q | q
      · exact q
      · rcases Nat.lt_or_eq_of_le q with q | q
        · have := hup i j q hj; omega
        · subst q; omega
    have := h1 j hji
    rw [hat j hj] at this
    exact this
  · refine .inr ⟨fun u hu => ?_, rfl⟩
    obtain ⟨j, hj, rfl⟩ := mem_gd ((hm u).2 hu)
    have := h1 j hj
    rw [hat j hj] at this
    exact this
end
/-- What is wrong ahead of a start. -/
def preE (now : Int) (T : List V4) (RS : List RunT) (S : List Slot) : Int := if badR now RS = true then 2 else if wrongR T S ≠ 0 then wrongR T S else (givR (vs RS) S).2
def SIs (now : Int) (T : List V4) (RS : List RunT) (S : List Slot) (r : Int × List ByteArray × Int) : Prop := if preE now T RS S ≠ 0 then r = (0, [], preE now T RS S) else StartIs now T S (vs RS) r
theorem SIs.uniq {now : Int} {T : List V4} {RS : List RunT} {S : List Slot} {r r' : Int × List ByteArray × Int} (h : SIs now T RS S r) (h' : SIs now T RS S r') : r = r' := by
  unfold SIs at h h'
  by_cases e : preE now T RS S ≠ 0
  · rw [if_pos e] at h h'; rw [h, h']
  · rw [if_neg e] at h h'; exact h.uniq h'
theorem pre0 {now : Int} {T : List V4} {RS : List RunT} {S : List Slot} (h : preE now T RS S = 0) : badR now RS = false ∧ Fine T S (vs RS) := by
  unfold preE at h
  cases hb : badR now RS with
  | true => rw [hb] at h; exact absurd h (by simp)
  | false =>
    rw [hb, if_neg (by simp)] at h
    by_cases hw : wrongR T S = 0
    · rw [if_neg (by simpa using hw)] at h
      exact ⟨rfl, hw, (givR (vs RS) S).1, Prod.ext rfl h⟩
    · rw [if_pos hw] at h; exact absurd h hw
theorem badR_iff {now : Int} {RS : List RunT} : badR now RS = false ↔ 0 ≤ now ∧ now < 1099511627776 ∧ RS.length ≤ 100 ∧ ∀ r ∈ RS, 0 ≤ r.fin ∧ r.fin ≤ 1099511627776 := by
  unfold badR tickB
  simp only [Bool.or_eq_false_iff, List.any_eq_false, Bool.not_eq_false', Bool.and_eq_true, decide_eq_true_eq, decide_eq_false_iff_not, Bool.not_eq_true']
  constructor
  · rintro ⟨⟨⟨a1, a2⟩, a3⟩, a4, a5⟩
    refine ⟨a1, by omega, by omega, fun r hr => ?_⟩
    have := a5 r hr
    simpa using this
  · rintro ⟨a1, a2, a3, a4⟩
    refine ⟨⟨⟨a1, by omega⟩, by omega⟩, by omega, fun r hr => ?_⟩
    have := a4 r hr
    simpa using this
end Go.Proofs.Ytchaijafpmofdaa
