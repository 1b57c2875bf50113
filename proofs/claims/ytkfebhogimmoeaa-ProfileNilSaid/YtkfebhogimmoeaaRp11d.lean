import Derived.Test.YtkfebhogimmoeaaRp11c
/-! The document's Take and Earliest. -/
namespace Go.Proofs.Ytkfebhogimmoeaa
open Go.Sl
set_option linter.unusedVariables false
set_option linter.unusedSimpArgs false
set_option maxRecDepth 100000
set_option maxHeartbeats 4000000

theorem Ends.has {W : List TkT} {E : List Int} (h : Ends W (2 * W.length) E) {w : TkT} (hw : w ∈ W) : w.1 ∈ E ∧ w.2.1 ∈ E := by
  obtain ⟨q, hq, rfl⟩ := mem_gd hw
  constructor
  · refine (h.mem _).2 ⟨2 * q, by omega, ?_⟩
    unfold tick
    rw [if_neg (by omega), show 2 * q / 2 = q from by omega]
  · refine (h.mem _).2 ⟨2 * q + 1, by omega, ?_⟩
    unfold tick
    rw [if_pos (by omega), show (2 * q + 1) / 2 = q from by omega]
theorem sm_ext {W : List TkT} {x y : Int} (h : ∀ w ∈ W, at4 w x = at4 w y) : sm W x = sm W y := by
  induction W with
  | nil => rfl
  | cons w W ih => rw [sm_cons, sm_cons, h w (List.mem_cons_self ..), ih (fun v hv => h v (List.mem_cons_of_mem _ hv))]
/-- Between ticks nothing turns. -/
theorem Ends.const {c : V4} {W : List TkT} {E : List Int} (h : Ends W (2 * W.length) E) (x y : Int) (hxy : x ≤ y) (hn : ∀ t ∈ E, ¬ (x < t ∧ t ≤ y)) : fW c W y = fW c W x := by
  unfold fW
  rw [sm_ext]
  intro w hw
  obtain ⟨h1, h2⟩ := h.has hw
  have := hn _ h1
  have := hn _ h2
  unfold at4
  by_cases q : w.1 ≤ x ∧ x < w.2.1
  · rw [if_pos q, if_pos (by omega)]
  · rw [if_neg q, if_neg (by omega)]
theorem Ends.before {c : V4} {W : List TkT} {E : List Int} (h : Ends W (2 * W.length) E) (x : Int) (hn : ∀ t ∈ E, ¬ t ≤ x) : fW c W x = c := by
  unfold fW
  have : sm W x = (0, 0, 0, 0) := by
    have : ∀ V : List TkT, (∀ w ∈ V, at4 w x = (0, 0, 0, 0)) → sm V x = (0, 0, 0, 0) := by
      intro V
      induction V with
      | nil => intro _; rfl
      | cons w V ih => intro hV; rw [sm_cons, hV w (List.mem_cons_self ..), ih (fun v hv => hV v (List.mem_cons_of_mem _ hv))]; rfl
    refine this W (fun w hw => ?_)
    have := hn _ (h.has hw).1
    unfold at4
    rw [if_neg (fun q => this q.1)]
  rw [this, sub4_zero]
theorem Ends.lst {c : V4} {W : List TkT} {E : List Int} (h : Ends W (2 * W.length) E) {a b : Int} (hab : a < b) : IsLst (fW c W) a b (lstE (fW c W) E a b) := lstE_is h.const hab
theorem Ends.steps {c : V4} {W : List TkT} {E : List Int} (h : Ends W (2 * W.length) E) : Ris (stE (fW c W) c E) ∧ new' c (stE (fW c W) c E) ∧ ∀ t, fR c (stE (fW c W) c E) t = fW c W t := by
  have hr : Ris (E.map (fun t => (t, fW c W t))) := by
    unfold Ris
    rw [List.pairwise_map, List.pairwise_iff_getElem]
    intro i j hi hj hij
    have := h.up i j hij hj
    rw [gd_eq hi, gd_eq hj] at this
    exact this
  refine ⟨cn_ris hr, cn_new, fun t => ?_⟩
  unfold stE
  rw [fR_cn hr]
  rcases last_of (p := fun e => e ≤ t) E with q | ⟨m, hm, q1, q2⟩
  · rw [fR_before, h.before t q]
    intro s hs
    obtain ⟨e, he, rfl⟩ := List.mem_map.1 hs
    have := q e he
    show t < e
    omega
  · have hat : fR c (E.map (fun t => (t, fW c W t))) m = fW c W m := fR_at hr (s := (m, fW c W m)) (List.mem_map.2 ⟨m, hm, rfl⟩)
    rw [h.const m t q1 (fun e he z => by have := q2 e he z.2; omega), ← hat]
    rcases fR_cases (w := c) hr q1 with z | ⟨s, hs, z1, z2, _⟩
    · exact z
    · obtain ⟨e, he, rfl⟩ := List.mem_map.1 hs
      have := q2 e he z2
      have z1' : m < e := z1
      omega
/-- A profile and the document's. -/
structure Rel (c : V4) (L : List StepT) (k : Nat) (W : List TkT) : Prop where
  inv : PInv c L k
  len : W.length = k
  fr : ∀ t, fr c L t = fW c W t
  right : ∀ w ∈ W, formed w.2.2 = true
  span : ∀ w ∈ W, spanB w.1 w.2.1 = true
theorem Rel.zero {c : V4} (h : formed c = true) : Rel c [] 0 [] := ⟨PInv.zero h, rfl, fun t => by simp [fW, sm, sub4]; rfl, fun w hw => by simp at hw, fun w hw => by simp at hw⟩
theorem Rel.steps {c : V4} {L : List StepT} {k : Nat} {W : List TkT} (h : Rel c L k W) {E : List Int} (hE : Ends W (2 * W.length) E) : stE (fW c W) c E = L := by
  obtain ⟨h1, h2, h3⟩ := hE.steps (c := c)
  exact fR_uniq h1 h.inv.ris h2 h.inv.new (fun t => by rw [h3, ← fr_eq, h.fr])
theorem Rel.lst {c : V4} {L : List StepT} {k : Nat} {W : List TkT} (h : Rel c L k W) {E : List Int} (hE : Ends W (2 * W.length) E) {a b : Int} (hab : a < b) : lstE (fW c W) E a b = lstL c L a b := by
  have h1 := hE.lst (c := c) hab
  have h2 := lst_is (c := c) h.inv.ris hab
  have : Go.Proofs.Ytkfebhogimmoeaa.fr c L = fW c W := funext h.fr
  rw [this] at h2
  exact h1.uniq h2
theorem Rel.take {c : V4} {L : List StepT} {k : Nat} {W : List TkT} {a b : Int} {v : V4} (h : Rel c L k W) (he : takeE c L k a b v = 0) : Rel c (lessL c L a b v) (k + 1) (W ++ [(a, b, v)]) := by
  refine ⟨h.inv.take he, by simp [h.len], fun t => ?_, fun w hw => ?_, fun w hw => ?_⟩
  · rw [fr_lessL h.inv he t, fW_snoc, h.fr]
    unfold at4
    split
    · rfl
    · rw [sub4_zero]
  · rcases List.mem_append.1 hw with q | q
    · exact h.right w q
    · rw [List.mem_singleton] at q
      subst q
      exact (takeE_ok.1 he).1
  · rcases List.mem_append.1 hw with q | q
    · exact h.span w q
    · rw [List.mem_singleton] at q
      subst q
      exact (takeE_ok.1 he).2.1
end Go.Proofs.Ytkfebhogimmoeaa
