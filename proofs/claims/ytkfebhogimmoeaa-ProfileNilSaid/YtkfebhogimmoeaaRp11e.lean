import Derived.Test.YtkfebhogimmoeaaRp11d
/-! The document's Earliest: plain. -/
namespace Go.Proofs.Ytkfebhogimmoeaa
open Go.Sl
set_option linter.unusedVariables false
set_option linter.unusedSimpArgs false
set_option maxRecDepth 100000
set_option maxHeartbeats 4000000

theorem Ends.after {c : V4} {W : List TkT} {E : List Int} (h : Ends W (2 * W.length) E) (x : Int) (hn : ∀ t ∈ E, t ≤ x) : fW c W x = c := by
  unfold fW
  have : sm W x = (0, 0, 0, 0) := by
    have : ∀ V : List TkT, (∀ w ∈ V, at4 w x = (0, 0, 0, 0)) → sm V x = (0, 0, 0, 0) := by
      intro V
      induction V with
      | nil => intro _; rfl
      | cons w V ih => intro hV; rw [sm_cons, hV w (List.mem_cons_self ..), ih (fun v hv => hV v (List.mem_cons_of_mem _ hv))]; rfl
    refine this W (fun w hw => ?_)
    have := hn _ (h.has hw).2
    unfold at4
    rw [if_neg (fun q => by omega)]
  rw [this, sub4_zero]
/-- The ticks that are looked at. -/
def cand (a : Int) (E : List Int) : List Int := a :: E.filter (fun e => decide (a < e))
theorem cand_mem {a : Int} {E : List Int} {x : Int} : x ∈ cand a E ↔ x = a ∨ (x ∈ E ∧ a < x) := by
  unfold cand
  rw [List.mem_cons, List.mem_filter]
  simp
theorem cand_up {a : Int} {E : List Int} (h : ∀ i j, i < j → j < E.length → gd E i < gd E j) : ∀ i j, i < j → j < (cand a E).length → gd (cand a E) i < gd (cand a E) j := by
  have hp : (cand a E).Pairwise (· < ·) := by
    unfold cand
    rw [List.pairwise_cons]
    refine ⟨fun x hx => by have := (List.mem_filter.1 hx).2; simpa using this, ?_⟩
    refine List.Pairwise.filter _ ?_
    rw [List.pairwise_iff_getElem]
    intro i j hi hj hij
    have := h i j hij hj
    rw [gd_eq hi, gd_eq hj] at this
    exact this
  intro i j hij hj
  rw [List.pairwise_iff_getElem] at hp
  have := hp i j (by omega) hj hij
  rw [gd_eq (by omega), gd_eq hj]
  exact this
/-- A tick of these is right. -/
structure OkC (f : Int → V4) (v : V4) (span : Int) (l : List Int) (i : Nat) : Prop where
  at' : fits v (f (gd l i)) = true
  on : ∀ k, i < k → k < l.length → gd l k ≥ gd l i + span ∨ fits v (f (gd l k)) = true
section
variable {f : Int → V4} {v : V4} {span a : Int} {E : List Int}
theorem cand_last (x : Int) (hx : a ≤ x) : ∃ m, m < (cand a E).length ∧ gd (cand a E) m ≤ x ∧ (∀ e ∈ E, ¬ (gd (cand a E) m < e ∧ e ≤ x)) ∧ ∀ i, i < (cand a E).length → gd (cand a E) i ≤ x → gd (cand a E) i ≤ gd (cand a E) m := by
  rcases last_of (p := fun e => e ≤ x) (cand a E) with q | ⟨t, ht, q1, q2⟩
  · exact absurd hx (q a (List.mem_cons_self ..))
  · obtain ⟨m, hm, rfl⟩ := mem_gd ht
    refine ⟨m, hm, q1, fun e he z => ?_, fun i hi hix => q2 _ (gd_mem hi) hix⟩
    have hae : a < e := by
      have := q2 a (List.mem_cons_self ..) hx
      omega
    have := q2 e (cand_mem.2 (.inr ⟨he, hae⟩)) z.2
    omega
theorem cand_ge (hu : ∀ i j, i < j → j < E.length → gd E i < gd E j) {i : Nat} (hi : i < (cand a E).length) : a ≤ gd (cand a E) i := by
  cases i with
  | zero => exact Int.le_refl _
  | succ i => exact Int.le_of_lt (cand_up (a := a) hu 0 (i + 1) (by omega) hi)
variable (hf : ∀ x y, x ≤ y → (∀ t ∈ E, ¬ (x < t ∧ t ≤ y)) → f y = f x) (hu : ∀ i j, i < j → j < E.length → gd E i < gd E j)
include hf hu
theorem okC_good (hs : 1 ≤ span) {i : Nat} (hi : i < (cand a E).length) : OkC f v span (cand a E) i ↔ Good f v span (gd (cand a E) i) := by
  constructor
  · intro o x h1 h2
    have ha := cand_ge hu hi
    obtain ⟨m, hm, q1, q2, q3⟩ := cand_last (E := E) (a := a) x (by omega)
    have hle := q3 i hi h1
    rw [hf _ x q1 q2]
    by_cases e : m = i
    · subst e; exact o.at'
    · have him : i < m := by
        apply Nat.not_le.1
        intro z
        have := cand_up (a := a) hu m i (by omega) hi
        omega
      rcases o.on m him hm with z | z
      · omega
      · exact z
  · intro g
    refine ⟨g _ (Int.le_refl _) (by omega), fun k hk hkl => ?_⟩
    have := cand_up (a := a) hu i k hk hkl
    by_cases c : gd (cand a E) k ≥ gd (cand a E) i + span
    · exact .inl c
    · exact .inr (g _ (by omega) (by omega))
theorem okC_ear (hs : 1 ≤ span) {i : Nat} (hi : i < (cand a E).length) (ho : OkC f v span (cand a E) i) (hn : ∀ j, j < i → ¬ OkC f v span (cand a E) j) : IsEar f v a span (gd (cand a E) i) := by
  refine ⟨cand_ge hu hi, (okC_good hf hu hs hi).1 ho, fun x h1 h2 g => ?_⟩
  obtain ⟨m, hm, q1, q2, q3⟩ := cand_last (E := E) (a := a) x h1
  have hmi : m < i := by
    apply Nat.not_le.1
    intro z
    by_cases e : i = m
    · subst e; omega
    · have := cand_up (a := a) hu i m (by omega) hm
      omega
  refine hn m hmi ((okC_good hf hu hs hm).2 (fun y y1 y2 => ?_))
  by_cases c : y ≤ x
  · have e1 := hf _ y y1 (fun t ht z => q2 t ht ⟨z.1, by omega⟩)
    have e2 := hf _ x q1 q2
    rw [e1, ← e2]
    exact g x (Int.le_refl _) (by omega)
  · exact g y (by omega) (by omega)
end
theorem okC_last {W : List TkT} {E : List Int} {c v : V4} {span a : Int} (h : Ends W (2 * W.length) E) (hv : fits v c = true) : OkC (fW c W) v span (cand a E) ((cand a E).length - 1) := by
  have hl : 0 < (cand a E).length := by unfold cand; simp
  refine ⟨?_, fun k hk hkl => by omega⟩
  rw [h.after]
  · exact hv
  · intro t ht
    have hge : ∀ x ∈ cand a E, x ≤ gd (cand a E) ((cand a E).length - 1) := by
      intro x hx
      obtain ⟨m, hm, rfl⟩ := mem_gd hx
      by_cases e : m = (cand a E).length - 1
      · subst e; exact Int.le_refl _
      · exact Int.le_of_lt (cand_up (a := a) h.up m _ (by omega) (by omega))
    by_cases c1 : a < t
    · exact hge t (cand_mem.2 (.inr ⟨ht, c1⟩))
    · have := hge a (List.mem_cons_self ..)
      omega
end Go.Proofs.Ytkfebhogimmoeaa
