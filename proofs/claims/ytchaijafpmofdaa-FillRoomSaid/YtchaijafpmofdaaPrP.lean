import Derived.Test.YtchaijafpmofdaaPr2
/-! A profile as a function of time: plain lists. -/
namespace Go.Proofs.Ytchaijafpmofdaa
open Go.Sl
set_option linter.unusedVariables false
set_option linter.unusedSimpArgs false

abbrev Ris (L : List StepT) : Prop := L.Pairwise (fun a b => a.1 < b.1)
theorem rising_iff {L : List StepT} : rising L ↔ Ris L := by
  unfold rising Ris
  rw [List.pairwise_iff_getElem]
  constructor
  · intro h i j hi hj hij
    have := h i j hij hj
    rw [gd_eq hi, gd_eq hj] at this
    exact this
  · intro h i j hij hj
    rw [gd_eq (by omega), gd_eq hj]
    exact h i j (by omega) hj hij
/-- What is free, step by step. -/
def fR : V4 → List StepT → Int → V4
  | w, [], _ => w
  | w, s :: L, t => if s.1 ≤ t then fR s.2 L t else w
theorem fr_eq (L : List StepT) : ∀ (w : V4) (t : Int), fr w L t = fR w L t := by
  induction L with
  | nil => intro w t; rfl
  | cons s L ih =>
    intro w t
    have key : fr w (s :: L) t = if s.1 ≤ t then fr s.2 L t else w := by
      unfold fr plc
      by_cases c : s.1 ≤ t
      · rw [List.takeWhile_cons_of_pos (by simpa using c), if_pos c]
        rw [if_neg (by simp)]
        simp only [List.length_cons, Nat.add_sub_cancel]
        cases h : (L.takeWhile (fun s => decide (s.1 ≤ t))).length with
        | zero => rfl
        | succ m => rw [if_neg (by omega)]; rfl
      · rw [List.takeWhile_cons_of_neg (by simpa using c), if_neg c]; rfl
    rw [key, ih]
    rfl
theorem fR_before {L : List StepT} {w : V4} {t : Int} (h : ∀ s ∈ L, t < s.1) : fR w L t = w := by
  cases L with
  | nil => rfl
  | cons s L => unfold fR; rw [if_neg]; have := h s (List.mem_cons_self ..); omega
theorem fR_at {L : List StepT} (hr : Ris L) : ∀ {w : V4} {s : StepT}, s ∈ L → fR w L s.1 = s.2 := by
  induction L with
  | nil => intro w s h; simp at h
  | cons x L ih =>
    intro w s h
    obtain ⟨h1, h2⟩ := List.pairwise_cons.1 hr
    unfold fR
    rcases List.mem_cons.1 h with e | e
    · subst e
      rw [if_pos (Int.le_refl _), fR_before h1]
    · rw [if_pos (Int.le_of_lt (h1 s e))]
      exact ih h2 e
/-- The last step at a tick or ahead of it. -/
theorem fR_cases {L : List StepT} : ∀ {w : V4} {a t : Int}, Ris L → a ≤ t → fR w L t = fR w L a ∨ ∃ s ∈ L, a < s.1 ∧ s.1 ≤ t ∧ fR w L t = s.2 := by
  induction L with
  | nil => intro w a t _ _; exact .inl rfl
  | cons x L ih =>
    intro w a t hr hat
    obtain ⟨h1, h2⟩ := List.pairwise_cons.1 hr
    unfold fR
    by_cases c : x.1 ≤ t
    · rw [if_pos c]
      by_cases d : x.1 ≤ a
      · rw [if_pos d]
        rcases ih (w := x.2) h2 hat with e | ⟨s, hs, q1, q2, q3⟩
        · exact .inl e
        · exact .inr ⟨s, List.mem_cons_of_mem _ hs, q1, q2, q3⟩
      · rw [if_neg d]
        rcases ih (w := x.2) (a := x.1) h2 c with e | ⟨s, hs, q1, q2, q3⟩
        · rw [fR_before (t := x.1) h1] at e
          exact .inr ⟨x, List.mem_cons_self .., by omega, c, e⟩
        · exact .inr ⟨s, List.mem_cons_of_mem _ hs, by omega, q2, q3⟩
    · rw [if_neg c, if_neg (by omega)]
      exact .inl rfl
/-! Steps that say nothing new. -/
theorem cn_sub {L : List StepT} : ∀ {w : V4} {s : StepT}, s ∈ cn w L → s ∈ L := by
  induction L with
  | nil => intro w s h; simp [cn] at h
  | cons x L ih =>
    intro w s h
    unfold cn at h
    split at h
    · exact List.mem_cons_of_mem _ (ih h)
    · rcases List.mem_cons.1 h with e | e
      · exact e ▸ List.mem_cons_self ..
      · exact List.mem_cons_of_mem _ (ih e)
theorem cn_ris {L : List StepT} : ∀ {w : V4}, Ris L → Ris (cn w L) := by
  induction L with
  | nil => intro w _; simp [cn, Ris]
  | cons x L ih =>
    intro w hr
    obtain ⟨h1, h2⟩ := List.pairwise_cons.1 hr
    unfold cn
    split
    · exact ih h2
    · exact List.pairwise_cons.2 ⟨fun s hs => h1 s (cn_sub hs), ih h2⟩
theorem fR_cn {L : List StepT} : ∀ {w : V4} {t : Int}, Ris L → fR w (cn w L) t = fR w L t := by
  induction L with
  | nil => intro w t _; rfl
  | cons x L ih =>
    intro w t hr
    obtain ⟨h1, h2⟩ := List.pairwise_cons.1 hr
    unfold cn
    by_cases c : x.2 = w
    · rw [if_pos c]
      subst c
      rw [ih h2]
      conv => rhs; unfold fR
      split
      · rfl
      · exact fR_before (fun s hs => by have := h1 s hs; omega)
    · rw [if_neg c]
      unfold fR
      rw [ih h2]
/-- Each step says something new. -/
def new' : V4 → List StepT → Prop
  | _, [] => True
  | w, s :: L => s.2 ≠ w ∧ new' s.2 L
theorem cn_new {L : List StepT} : ∀ {w : V4}, new' w (cn w L) := by
  induction L with
  | nil => intro w; trivial
  | cons x L ih =>
    intro w
    unfold cn
    split
    · rename_i h; rw [← h]; exact ih
    · rename_i h; exact ⟨h, ih⟩
/-- One function has one list of steps. -/
theorem fR_uniq {L : List StepT} : ∀ {L' : List StepT} {w : V4}, Ris L → Ris L' → new' w L → new' w L' → (∀ t, fR w L t = fR w L' t) → L = L' := by
  induction L with
  | nil =>
    intro L' w _ h2 _ h4 h5
    cases L' with
    | nil => rfl
    | cons y L' =>
      exfalso
      have := h5 y.1
      rw [fR_at h2 (List.mem_cons_self ..)] at this
      exact h4.1 this.symm
  | cons x L ih =>
    intro L' w h1 h2 h3 h4 h5
    cases L' with
    | nil =>
      exfalso
      have := h5 x.1
      rw [fR_at h1 (List.mem_cons_self ..)] at this
      exact h3.1 this
    | cons y L' =>
      have hx := h5 x.1
      have hy := h5 y.1
      rw [fR_at h1 (List.mem_cons_self ..)] at hx
      rw [fR_at h2 (List.mem_cons_self ..)] at hy
      have e1 : y.1 ≤ x.1 := by
        apply Int.not_lt.1
        intro c
        rw [show fR w (y :: L') x.1 = w from by unfold fR; rw [if_neg (by omega)]] at hx
        exact h3.1 hx
      have e2 : x.1 ≤ y.1 := by
        apply Int.not_lt.1
        intro c
        rw [show fR w (x :: L) y.1 = w from by unfold fR; rw [if_neg (by omega)]] at hy
        exact h4.1 hy.symm
      have e3 : x.1 = y.1 := by omega
      obtain ⟨p1, p2⟩ := List.pairwise_cons.1 h1
      obtain ⟨q1, q2⟩ := List.pairwise_cons.1 h2
      rw [e3, fR_at h2 (List.mem_cons_self ..)] at hx
      have e4 : x = y := Prod.ext e3 hx
      subst e4
      congr 1
      refine ih (w := x.2) p2 q2 h3.2 h4.2 (fun t => ?_)
      have := h5 t
      unfold fR at this
      by_cases c : x.1 ≤ t
      · rw [if_pos c, if_pos c] at this; exact this
      · rw [fR_before (fun s hs => by have := p1 s hs; omega), fR_before (fun s hs => by have := q1 s hs; omega)]
/-! A step more. -/
def spR : V4 → List StepT → Int → List StepT
  | w, [], t => [(t, w)]
  | w, s :: L, t => if s.1 = t then s :: L else if s.1 < t then s :: spR s.2 L t else (t, w) :: s :: L
theorem split_eq {L : List StepT} : ∀ {w : V4} {t : Int}, Ris L → splitL w L t = spR w L t := by
  induction L with
  | nil => intro w t _; rfl
  | cons x L ih =>
    intro w t hr
    obtain ⟨h1, h2⟩ := List.pairwise_cons.1 hr
    have ih' := ih (w := x.2) (t := t) h2
    unfold spR
    by_cases c : x.1 ≤ t
    · have hp : plc (x :: L) t = plc L t + 1 := by unfold plc; rw [List.takeWhile_cons_of_pos (by simpa using c)]; rfl
      have hf : fr w (x :: L) t = fr x.2 L t := by rw [fr_eq, fr_eq]; conv => lhs; unfold fR; rw [if_pos c]
      by_cases d : x.1 = t
      · rw [if_pos d]
        have h0 : plc L t = 0 := by
          unfold plc
          cases L with
          | nil => rfl
          | cons y L =>
            rw [List.takeWhile_cons_of_neg]
            · rfl
            · have := h1 y (List.mem_cons_self ..); simp; omega
        unfold splitL
        rw [hp, h0, if_pos ⟨by omega, d⟩]
      · rw [if_neg d, if_pos (by omega), ← ih']
        unfold splitL
        rw [hp, hf]
        by_cases z : plc L t = 0
        · rw [z]
          rw [if_neg (by rintro ⟨_, q⟩; exact d q), if_neg (by omega)]
          rfl
        · have hz : gd (x :: L) (plc L t + 1 - 1) = gd L (plc L t - 1) := by
            obtain ⟨m, hm⟩ := Nat.exists_eq_succ_of_ne_zero z
            rw [hm]; rfl
          rw [hz]
          by_cases q : (gd L (plc L t - 1)).1 = t
          · rw [if_pos ⟨by omega, q⟩, if_pos ⟨by omega, q⟩]
          · rw [if_neg (fun h => q h.2), if_neg (fun h => q h.2)]
            rfl
    · have hp : plc (x :: L) t = 0 := by unfold plc; rw [List.takeWhile_cons_of_neg (by simpa using c)]; rfl
      rw [if_neg (by omega), if_neg (by omega)]
      unfold splitL
      rw [hp, if_neg (by omega)]
      have : fr w (x :: L) t = w := by unfold fr; rw [hp]; rfl
      rw [this]; rfl
theorem spR_mem {L : List StepT} : ∀ {w : V4} {t : Int} {s : StepT}, s ∈ spR w L t → s ∈ L ∨ s = (t, fR w L t) := by
  induction L with
  | nil => intro w t s h; simp [spR] at h; exact .inr h
  | cons x L ih =>
    intro w t s h
    unfold spR at h
    unfold fR
    split at h
    · exact .inl h
    · split at h
      · rcases List.mem_cons.1 h with e | e
        · exact .inl (e ▸ List.mem_cons_self ..)
        · rw [if_pos (by omega)]
          rcases ih e with q | q
          · exact .inl (List.mem_cons_of_mem _ q)
          · exact .inr q
      · rcases List.mem_cons.1 h with e | e
        · rw [if_neg (by omega)]; exact .inr e
        · exact .inl e
theorem spR_has {L : List StepT} : ∀ {w : V4} {t : Int}, ∃ s ∈ spR w L t, s.1 = t := by
  induction L with
  | nil => intro w t; exact ⟨(t, w), by simp [spR], rfl⟩
  | cons x L ih =>
    intro w t
    unfold spR
    split
    · rename_i h; exact ⟨x, List.mem_cons_self .., h⟩
    · split
      · obtain ⟨s, hs, e⟩ := ih (w := x.2) (t := t)
        exact ⟨s, List.mem_cons_of_mem _ hs, e⟩
      · exact ⟨(t, w), List.mem_cons_self .., rfl⟩
theorem spR_sub {L : List StepT} : ∀ {w : V4} {t : Int} {s : StepT}, s ∈ L → s ∈ spR w L t := by
  induction L with
  | nil => intro w t s h; simp at h
  | cons x L ih =>
    intro w t s h
    unfold spR
    split
    · exact h
    · split
      · rcases List.mem_cons.1 h with e | e
        · exact e ▸ List.mem_cons_self ..
        · exact List.mem_cons_of_mem _ (ih e)
      · exact List.mem_cons_of_mem _ h
theorem spR_len {L : List StepT} : ∀ {w : V4} {t : Int}, (spR w L t).length ≤ L.length + 1 := by
  induction L with
  | nil => intro w t; simp [spR]
  | cons x L ih =>
    intro w t
    unfold spR
    have := ih (w := x.2) (t := t)
    split
    · simp
    · split <;> simp <;> omega
theorem spR_ris {L : List StepT} : ∀ {w : V4} {t : Int}, Ris L → Ris (spR w L t) := by
  induction L with
  | nil => intro w t _; simp [spR, Ris]
  | cons x L ih =>
    intro w t hr
    obtain ⟨h1, h2⟩ := List.pairwise_cons.1 hr
    unfold spR
    split
    · exact hr
    · split
      · refine List.pairwise_cons.2 ⟨fun s hs => ?_, ih h2⟩
        rcases spR_mem hs with q | q
        · exact h1 s q
        · rw [q]; assumption
      · refine List.pairwise_cons.2 ⟨fun s hs => ?_, hr⟩
        rcases List.mem_cons.1 hs with q | q
        · rw [q]; show t < x.1; omega
        · have := h1 s q; show t < s.1; omega
theorem fR_sp {L : List StepT} : ∀ {w : V4} {t u : Int}, fR w (spR w L t) u = fR w L u := by
  induction L with
  | nil => intro w t u; show (if t ≤ u then w else w) = w; split <;> rfl
  | cons x L ih =>
    intro w t u
    unfold spR
    split
    · rfl
    · split
      · unfold fR; rw [ih]
      · show (if t ≤ u then fR w (x :: L) u else w) = _
        split
        · rfl
        · unfold fR; rw [if_neg (by omega)]
/-! Less for a while. -/
def lessS (a b : Int) (h : V4 → V4) (s : StepT) : StepT := if a ≤ s.1 ∧ s.1 < b then (s.1, h s.2) else s
theorem lessS_at (a b : Int) (h : V4 → V4) (s : StepT) : (lessS a b h s).1 = s.1 := by unfold lessS; split <;> rfl
theorem fR_less {L : List StepT} {a b : Int} {h : V4 → V4} : ∀ {w : V4} {m u : Int}, Ris L → (∀ s ∈ L, m < s.1) → (a ≤ m ∨ ∃ s ∈ L, s.1 = a) → (b ≤ m ∨ ∃ s ∈ L, s.1 = b) → m ≤ u →
    fR (if a ≤ m ∧ m < b then h w else w) (L.map (lessS a b h)) u = if a ≤ u ∧ u < b then h (fR w L u) else fR w L u := by
  induction L with
  | nil =>
    intro w m u _ _ ha hb hu
    have ha' : a ≤ m := by rcases ha with q | ⟨s, hs, _⟩; exact q; simp at hs
    have hb' : b ≤ m := by rcases hb with q | ⟨s, hs, _⟩; exact q; simp at hs
    rw [if_neg (by omega), if_neg (by omega)]; rfl
  | cons x L ih =>
    intro w m u hr hm ha hb hu
    obtain ⟨h1, h2⟩ := List.pairwise_cons.1 hr
    have hmx := hm x (List.mem_cons_self ..)
    have ha' : a ≤ x.1 ∨ ∃ s ∈ L, s.1 = a := by
      rcases ha with q | ⟨s, hs, q⟩
      · exact .inl (by omega)
      · rcases List.mem_cons.1 hs with e | e
        · subst e; exact .inl (by omega)
        · exact .inr ⟨s, e, q⟩
    have hb' : b ≤ x.1 ∨ ∃ s ∈ L, s.1 = b := by
      rcases hb with q | ⟨s, hs, q⟩
      · exact .inl (by omega)
      · rcases List.mem_cons.1 hs with e | e
        · subst e; exact .inl (by omega)
        · exact .inr ⟨s, e, q⟩
    show (if (lessS a b h x).1 ≤ u then fR (lessS a b h x).2 (L.map (lessS a b h)) u else _) = if a ≤ u ∧ u < b then h (if x.1 ≤ u then fR x.2 L u else w) else (if x.1 ≤ u then fR x.2 L u else w)
    rw [lessS_at]
    by_cases c : x.1 ≤ u
    · rw [if_pos c, if_pos c]
      have := ih (w := x.2) (m := x.1) (u := u) h2 h1 ha' hb' c
      rw [← this]
      congr 1
      unfold lessS
      split <;> rfl
    · rw [if_neg c, if_neg c]
      have ea : a ≤ u ↔ a ≤ m := by
        constructor
        · intro q
          rcases ha with z | ⟨s, hs, z⟩
          · exact z
          · rcases List.mem_cons.1 hs with e | e
            · subst e; omega
            · have := h1 s e; omega
        · intro q; omega
      have eb : u < b ↔ m < b := by
        constructor
        · intro q; omega
        · intro q
          rcases hb with z | ⟨s, hs, z⟩
          · omega
          · rcases List.mem_cons.1 hs with e | e
            · subst e; omega
            · have := h1 s e; omega
      simp only [ea, eb]
/-! The least. -/
def min4 (a b : V4) : V4 := (min a.1 b.1, min a.2.1 b.2.1, min a.2.2.1 b.2.2.1, min a.2.2.2 b.2.2.2)
theorem fits_min {w a b : V4} : fits w (min4 a b) = true ↔ fits w a = true ∧ fits w b = true := by
  simp only [fits_iff, min4]
  omega
theorem fits_refl (a : V4) : fits a a = true := by rw [fits_iff]; omega
theorem fits_anti {a b : V4} (h : fits a b = true) (h' : fits b a = true) : a = b := by
  rw [fits_iff] at h h'
  obtain ⟨a1, a2, a3, a4⟩ := a
  obtain ⟨b1, b2, b3, b4⟩ := b
  simp only [Prod.mk.injEq] at *
  omega
theorem fits_fold {w : V4} : ∀ {L : List StepT} {v : V4}, fits w (L.foldl (fun v s => min4 v s.2) v) = true ↔ fits w v = true ∧ ∀ s ∈ L, fits w s.2 = true := by
  intro L
  induction L with
  | nil => intro v; simp
  | cons x L ih =>
    intro v
    rw [List.foldl_cons, ih, fits_min]
    simp only [List.mem_cons, forall_eq_or_imp]
    exact and_assoc
/-- The greatest that is never more than what is free from a on, ahead of b. -/
structure IsLst (f : Int → V4) (a b : Int) (v : V4) : Prop where
  iff : ∀ w, fits w v = true ↔ ∀ t, a ≤ t → t < b → fits w (f t) = true
theorem IsLst.uniq {f : Int → V4} {a b : Int} {v v' : V4} (h : IsLst f a b v) (h' : IsLst f a b v') : v = v' :=
  fits_anti ((h'.iff v).2 ((h.iff v).1 (fits_refl v))) ((h.iff v').2 ((h'.iff v').1 (fits_refl v')))
/-- By the steps in between. -/
theorem IsLst.of {f : Int → V4} {a b : Int} {v : V4} {X : List (Int × V4)} (hab : a < b) (hX : ∀ x ∈ X, a < x.1 → x.1 < b → f x.1 = x.2) (hf : ∀ t, a ≤ t → t < b → f t = f a ∨ ∃ x ∈ X, a < x.1 ∧ x.1 < b ∧ f t = x.2)
    (hv : ∀ w, fits w v = true ↔ fits w (f a) = true ∧ ∀ x ∈ X, a < x.1 → x.1 < b → fits w x.2 = true) : IsLst f a b v := ⟨fun w => by
  rw [hv]
  constructor
  · rintro ⟨h1, h2⟩ t ht1 ht2
    rcases hf t ht1 ht2 with e | ⟨x, hx, q1, q2, e⟩
    · rw [e]; exact h1
    · rw [e]; exact h2 x hx q1 q2
  · intro h
    exact ⟨h a (Int.le_refl _) hab, fun x hx q1 q2 => by rw [← hX x hx q1 q2]; exact h _ (by omega) q2⟩⟩
theorem takeWhile_take {α : Type} [Inhabited α] {p : α → Bool} {l : List α} {k : Nat} (hk : k ≤ l.length) (h1 : ∀ j, j < k → p (gd l j) = true) (h2 : k < l.length → p (gd l k) = false) : l.takeWhile p = l.take k := by
  induction l generalizing k with
  | nil => simp
  | cons x l ih =>
    cases k with
    | zero => rw [List.takeWhile_cons_of_neg]; rfl; have := h2 (by simp); rw [show gd (x :: l) 0 = x from rfl] at this; simp [this]
    | succ k =>
      rw [List.takeWhile_cons_of_pos (show p x = true from h1 0 (by omega)), List.take_succ_cons]
      congr 1
      exact ih (by simp at hk; exact hk) (fun j hj => h1 (j + 1) (by omega)) (fun q => h2 (by simp; exact q))
def lstL (c : V4) (L : List StepT) (a b : Int) : V4 := ((L.drop (plc L a)).takeWhile (fun s => decide (s.1 < b))).foldl (fun v s => min4 v s.2) (fr c L a)
theorem mem_tw {L : List StepT} {b : Int} (hr : Ris L) {s : StepT} : s ∈ L.takeWhile (fun s => decide (s.1 < b)) ↔ s ∈ L ∧ s.1 < b := by
  induction L with
  | nil => simp
  | cons x L ih =>
    obtain ⟨h1, h2⟩ := List.pairwise_cons.1 hr
    by_cases c : x.1 < b
    · rw [List.takeWhile_cons_of_pos (by simpa using c), List.mem_cons, List.mem_cons, ih h2]
      constructor
      · rintro (e | ⟨e, q⟩)
        · subst e; exact ⟨.inl rfl, c⟩
        · exact ⟨.inr e, q⟩
      · rintro ⟨e | e, q⟩
        · exact .inl e
        · exact .inr ⟨e, q⟩
    · rw [List.takeWhile_cons_of_neg (by simpa using c)]
      simp only [List.not_mem_nil, false_iff, List.mem_cons]
      rintro ⟨e | e, q⟩
      · subst e; exact c q
      · have := h1 s e; omega
theorem mem_dp {L : List StepT} {a : Int} (hr : Ris L) {s : StepT} : s ∈ L.drop (plc L a) ↔ s ∈ L ∧ a < s.1 := by
  have hi := rising_iff.2 hr
  constructor
  · intro h
    obtain ⟨k, hk, rfl⟩ := mem_gd h
    rw [List.length_drop] at hk
    rw [gd_drop_add]
    have := rising_le hi (i := plc L a) (j := plc L a + k) (by omega) (by omega)
    have := plc_ge (t := a) (L := L) (by omega)
    exact ⟨gd_mem (by omega), by omega⟩
  · rintro ⟨h, q⟩
    obtain ⟨k, hk, rfl⟩ := mem_gd h
    have hk2 : plc L a ≤ k := by
      apply Nat.not_lt.1
      intro z
      have := plc_lt z
      omega
    have : gd L k = gd (L.drop (plc L a)) (k - plc L a) := by rw [gd_drop_add]; congr 1; omega
    rw [this]
    exact gd_mem (by rw [List.length_drop]; omega)
theorem lst_is {c : V4} {L : List StepT} {a b : Int} (hr : Ris L) (hab : a < b) : IsLst (fr c L) a b (lstL c L a b) := by
  have hd : Ris (L.drop (plc L a)) := hr.sublist (List.drop_sublist _ _)
  refine IsLst.of (X := L) hab (fun x hx _ _ => by rw [fr_eq]; exact fR_at hr hx) (fun t h1 h2 => ?_) (fun w => ?_)
  · rw [fr_eq, fr_eq]
    rcases fR_cases (w := c) hr h1 with e | ⟨s, hs, q1, q2, e⟩
    · exact .inl e
    · exact .inr ⟨s, hs, q1, by omega, e⟩
  · unfold lstL
    rw [fits_fold]
    constructor
    · rintro ⟨h1, h2⟩
      exact ⟨h1, fun x hx q1 q2 => h2 x ((mem_tw hd).2 ⟨(mem_dp hr).2 ⟨hx, q1⟩, q2⟩)⟩
    · rintro ⟨h1, h2⟩
      refine ⟨h1, fun x hx => ?_⟩
      obtain ⟨z1, z2⟩ := (mem_tw hd).1 hx
      obtain ⟨z3, z4⟩ := (mem_dp hr).1 z1
      exact h2 x z3 z4 z2
end Go.Proofs.Ytchaijafpmofdaa
