/-! The interval heap's law on numbers: v i stands at the place i. -/
namespace Go.Proofs.Ytjgionnigenijaa.Heap
set_option linter.unusedVariables false
def lo (i : Nat) : Nat := i / 2 * 2
def lp (i : Nat) : Nat := (i / 2 - 1) / 2 * 2
def sw (v : Nat → Int) (i k : Nat) : Nat → Int := fun x => if x = k then v i else if x = i then v k else v x
structure Cond (v : Nat → Int) (n i dl dh : Nat) : Prop where
  P : ∀ a, a % 2 = 0 → a + 1 < n → v a ≤ v (a + 1)
  L : ∀ j, 2 ≤ j → j < n → j ≠ i → lp j ≠ dl → v (lp j) ≤ v j
  H : ∀ j, 2 ≤ j → j < n → j ≠ i → lp j ≠ dh → v j ≤ v (lp j + 1)
  C : 2 ≤ i → ∀ j, 2 ≤ j → j < n → lp j = lo i → v (lp i) ≤ v j ∧ v j ≤ v (lp i + 1)
  dl1 : dl < n → i % 2 = 1 ∧ lo i ≤ dl ∧ dl % 2 = 0
  dh1 : dh < n → i % 2 = 0 ∧ i + 1 < n ∧ lo i ≤ dh ∧ dh % 2 = 0
  CL : ∀ j, 2 ≤ j → j < n → lp j = dl → 2 ≤ dl → v (lp dl) ≤ v j
  CH : ∀ j, 2 ≤ j → j < n → lp j = dh → 2 ≤ dh → v j ≤ v (lp dh + 1)
theorem sw_same (v : Nat → Int) (i k : Nat) : sw v i k k = v i := by simp [sw]
theorem sw_l (v : Nat → Int) (i k : Nat) (h : i ≠ k) : sw v i k i = v k := by simp [sw, h]
theorem sw_o (v : Nat → Int) (i k x : Nat) (h1 : x ≠ k) (h2 : x ≠ i) : sw v i k x = v x := by simp [sw, h1, h2]
theorem lp_facts (j : Nat) (h : 2 ≤ j) : lp j % 2 = 0 ∧ lp j + 1 < j ∧ lp j ≤ lo j - 2 ∧ lo j ≤ 2 * lp j + 4 ∧ 2 * lp j + 2 ≤ lo j ∧ lo j ≤ j ∧ j ≤ lo j + 1 ∧ lo j % 2 = 0 := by unfold lp lo; omega
theorem lp_lo (j : Nat) : lp (lo j) = lp j := by unfold lp lo; congr 2; omega
theorem lp_pair (a : Nat) (h : a % 2 = 0) : lp (a + 1) = lp a := by unfold lp; congr 2; omega
theorem lo_even (a : Nat) (h : a % 2 = 0) : lo a = a := by unfold lo; omega
theorem lo_odd (a : Nat) (h : a % 2 = 0) : lo (a + 1) = a := by unfold lo; omega
theorem stepL {v : Nat → Int} {n i dl dh : Nat} (c : Cond v n i dl dh) (hi : 2 ≤ i) (hn : i < n) (hv : v i < v (lp i)) : Cond (sw v i (lp i)) n (lp i) dl dh := by
  obtain ⟨f1, f2, f3, f4, f5, f6, f7, f8⟩ := lp_facts i hi
  have hev : i % 2 = 0 := by
    by_cases h : i % 2 = 0
    · exact h
    · exfalso
      have e : lp (i - 1) = lp i := by
        have := lp_pair (i - 1) (by omega)
        rw [show i - 1 + 1 = i from by omega] at this; exact this.symm
      have h1 := c.L (i - 1) (by omega) (by omega) (by omega) (by intro e2; have := c.dl1; rw [e] at e2; omega)
      have h2 := c.P (i - 1) (by omega) (by omega)
      rw [show i - 1 + 1 = i from by omega] at h2
      rw [e] at h1
      omega
  have hdl : ¬ dl < n := fun h => by have := c.dl1 h; omega
  have hloi : lo i = i := lo_even i hev
  have eL := sw_same v i (lp i)
  have eI := sw_l v i (lp i) (by omega)
  have eO := sw_o v i (lp i)
  have part : i + 1 < n → v (lp i) ≤ v (i + 1) := fun h => by
    have := c.L (i + 1) (by omega) h (by omega) (by rw [lp_pair i hev]; omega)
    rwa [lp_pair i hev] at this
  refine ⟨?_, ?_, ?_, ?_, ?_, ?_, ?_, ?_⟩
  · intro a ha hn'
    have := c.P a ha hn'
    by_cases e1 : a = lp i
    · subst e1; rw [eL, eO _ (by omega) (by omega)]; omega
    · by_cases e2 : a = i
      · subst e2; rw [eI, eO _ (by omega) (by omega)]; exact part hn'
      · rw [eO _ e1 e2, eO _ (by omega) (by omega)]; exact this
  · intro j h2 hj hne hd
    have g := lp_facts j h2
    by_cases e2 : j = i
    · subst e2; rw [eL, eI]; omega
    · have hl := c.L j h2 hj e2 hd
      rw [eO j hne e2]
      by_cases e3 : lp j = lp i
      · rw [e3, eL]; rw [e3] at hl; omega
      · by_cases e4 : lp j = i
        · rw [e4, eI]; exact (c.C hi j h2 hj (by rw [hloi]; exact e4)).1
        · rw [eO _ e3 e4]; exact hl
  · intro j h2 hj hne hd
    have g := lp_facts j h2
    have o1 : sw v i (lp i) (lp j + 1) = v (lp j + 1) := eO _ (by omega) (by omega)
    rw [o1]
    by_cases e2 : j = i
    · subst e2; rw [eI]
      exact c.P (lp j) f1 (by omega)
    · rw [eO j hne e2]; exact c.H j h2 hj e2 hd
  · intro hp j h2 hj e
    have g := lp_facts j h2
    have k := lp_facts (lp i) hp
    rw [lo_even _ f1] at e
    rw [eO (lp (lp i)) (by omega) (by omega), eO (lp (lp i) + 1) (by omega) (by omega)]
    have hLp := c.L (lp i) hp (by omega) (by omega) (by intro e2; have := c.dl1; omega)
    have hdd : lp (lp i) ≠ dh := by intro e2; have := c.dh1; omega
    have hd2 : lp i ≠ dh := by intro e2; have := c.dh1; omega
    have hHp := c.H (lp i) hp (by omega) (by omega) hdd
    have hHp1 := c.H (lp i + 1) (by omega) (by omega) (by omega) (by rw [lp_pair _ f1]; exact hdd)
    rw [lp_pair _ f1] at hHp1
    by_cases e2 : j = i
    · subst e2; rw [eI]; exact ⟨hLp, hHp⟩
    · rw [eO j (by omega) e2]
      have h3 := c.L j h2 hj e2 (by rw [e]; intro e3; have := c.dl1; omega)
      have h4 := c.H j h2 hj e2 (by rw [e]; exact hd2)
      rw [e] at h3 h4
      omega
  · intro h; exact (hdl h).elim
  · intro h; have := c.dh1 h; rw [lo_even _ f1]; omega
  · intro j h2 hj e hd
    have g := lp_facts j h2
    exfalso; omega
  · intro j h2 hj e hd
    have g := lp_facts j h2
    have hdn : dh < n := by omega
    have d := c.dh1 hdn
    have k := lp_facts dh hd
    rw [eO j (by omega) (by intro e2; rw [e2] at e; omega), eO (lp dh + 1) (by omega) (by omega)]
    exact c.CH j h2 hj e hd
theorem stepH {v : Nat → Int} {n i dl dh : Nat} (c : Cond v n i dl dh) (hi : 2 ≤ i) (hn : i < n) (hnl : ¬ v i < v (lp i)) (hv : v (lp i + 1) < v i) : Cond (sw v i (lp i + 1)) n (lp i + 1) dl dh := by
  obtain ⟨f1, f2, f3, f4, f5, f6, f7, f8⟩ := lp_facts i hi
  have hev : i % 2 = 1 ∨ i + 1 = n := by
    by_cases h : i % 2 = 1
    · exact .inl h
    · right
      by_cases h' : i + 1 = n
      · exact h'
      · exfalso
        have e : lp (i + 1) = lp i := lp_pair i (by omega)
        have h1 := c.H (i + 1) (by omega) (by omega) (by omega) (by intro e2; have := c.dh1; rw [e] at e2; omega)
        have h2 := c.P i (by omega) (by omega)
        rw [e] at h1
        omega
  have hdh : ¬ dh < n := fun h => by have := c.dh1 h; omega
  have eL := sw_same v i (lp i + 1)
  have eI := sw_l v i (lp i + 1) (by omega)
  have eO := sw_o v i (lp i + 1)
  have lp1 : lp (lp i + 1) = lp (lp i) := lp_pair _ f1
  have lo1 : lo (lp i + 1) = lp i := lo_odd _ f1
  have part : i % 2 = 1 → v (i - 1) ≤ v (lp i + 1) := fun h => by
    have e : lp (i - 1) = lp i := by
      have := lp_pair (i - 1) (by omega)
      rw [show i - 1 + 1 = i from by omega] at this; exact this.symm
    have := c.H (i - 1) (by omega) (by omega) (by omega) (by rw [e]; omega)
    rwa [e] at this
  refine ⟨?_, ?_, ?_, ?_, ?_, ?_, ?_, ?_⟩
  · intro a ha hn'
    have := c.P a ha hn'
    by_cases e1 : a = lp i
    · subst e1; rw [eL, eO _ (by omega) (by omega)]; omega
    · by_cases e2 : a + 1 = i
      · have h3 := part (by omega)
        rw [show i - 1 = a from by omega] at h3
        rw [e2, eI, eO a (by omega) (by omega)]; exact h3
      · rw [eO a (by omega) (by omega), eO (a + 1) (by omega) (by omega)]; exact this
  · intro j h2 hj hne hd
    have g := lp_facts j h2
    have o1 : sw v i (lp i + 1) (lp j) = v (lp j) := eO _ (by omega) (by omega)
    rw [o1]
    by_cases e2 : j = i
    · subst e2; rw [eI]
      exact c.P (lp j) f1 (by omega)
    · rw [eO j hne e2]; exact c.L j h2 hj e2 hd
  · intro j h2 hj hne hd
    have g := lp_facts j h2
    by_cases e2 : j = i
    · subst e2; rw [eL, eI]; omega
    · have hl := c.H j h2 hj e2 hd
      rw [eO j hne e2]
      by_cases e3 : lp j = lp i
      · rw [e3, eL]; rw [e3] at hl; omega
      · by_cases e4 : lp j + 1 = i
        · rw [e4, eI]; exact (c.C hi j h2 hj (by unfold lo; omega)).2
        · rw [eO _ (by omega) e4]; exact hl
  · intro hp j h2 hj e
    have g := lp_facts j h2
    have k := lp_facts (lp i + 1) hp
    rw [lo1] at e
    rw [lp1]
    rw [lp1, lo1] at k
    have hp2 : 2 ≤ lp i := by omega
    rw [eO (lp (lp i)) (by omega) (by omega), eO (lp (lp i) + 1) (by omega) (by omega)]
    have hdl0 : dl < n → lp i < dl ∨ dl < n := fun h => .inr h
    have q1 : lp (lp i) ≠ dl := by intro e2; have := c.dl1; omega
    have q2 : lp i ≠ dl := by intro e2; have := c.dl1; omega
    have hLp := c.L (lp i) hp2 (by omega) (by omega) q1
    have hLp1 := c.L (lp i + 1) (by omega) (by omega) (by omega) (by rw [lp1]; exact q1)
    have hHp1 := c.H (lp i + 1) (by omega) (by omega) (by omega) (by rw [lp1]; omega)
    rw [lp1] at hHp1 hLp1
    by_cases e2 : j = i
    · subst e2; rw [eI]; exact ⟨hLp1, hHp1⟩
    · rw [eO j (by omega) e2]
      have h3 := c.L j h2 hj e2 (by rw [e]; exact q2)
      have h4 := c.H j h2 hj e2 (by rw [e]; omega)
      rw [e] at h3 h4
      omega
  · intro h; have := c.dl1 h; rw [lo1]; omega
  · intro h; exact (hdh h).elim
  · intro j h2 hj e hd
    have g := lp_facts j h2
    have hdn : dl < n := by omega
    have d := c.dl1 hdn
    have k := lp_facts dl hd
    rw [eO j (by omega) (by intro e2; rw [e2] at e; omega), eO (lp dl) (by omega) (by omega)]
    exact c.CL j h2 hj e hd
  · intro j h2 hj e hd
    have g := lp_facts j h2
    exfalso; omega
/-- All is in order but for the children's low ends under dl, and their high ends under dh. -/
structure Done (v : Nat → Int) (n dl dh : Nat) : Prop where
  P : ∀ a, a % 2 = 0 → a + 1 < n → v a ≤ v (a + 1)
  L : ∀ j, 2 ≤ j → j < n → lp j ≠ dl → v (lp j) ≤ v j
  H : ∀ j, 2 ≤ j → j < n → lp j ≠ dh → v j ≤ v (lp j + 1)
  CL : ∀ j, 2 ≤ j → j < n → lp j = dl → 2 ≤ dl → v (lp dl) ≤ v j
  CH : ∀ j, 2 ≤ j → j < n → lp j = dh → 2 ≤ dh → v j ≤ v (lp dh + 1)
theorem Cond.done {v : Nat → Int} {n i dl dh : Nat} (c : Cond v n i dl dh) (h : 2 ≤ i → ¬ v i < v (lp i) ∧ ¬ v (lp i + 1) < v i) : Done v n dl dh :=
  ⟨c.P, fun j h2 hj hd => by by_cases e : j = i
                             · subst e; have := h h2; omega
                             · exact c.L j h2 hj e hd,
   fun j h2 hj hd => by by_cases e : j = i
                        · subst e; have := h h2; omega
                        · exact c.H j h2 hj e hd, c.CL, c.CH⟩
theorem Done.none {n d : Nat} (h : n ≤ d) {j : Nat} (h2 : 2 ≤ j) (hj : j < n) : lp j ≠ d := by
  have := lp_facts j h2; omega
/-- One step down on the low side: v is the old, u the new. -/
theorem stepDL {v u : Nat → Int} {n i d c : Nat} (h : Done v n i d) (hd : n ≤ d) (hi : i % 2 = 0) (hc : c = 2 * i + 2 ∨ c = 2 * i + 4) (hcn : c < n) (hlt : v c < v i)
    (h1 : 2 * i + 2 < n → v c ≤ v (2 * i + 2)) (h2 : 2 * i + 4 < n → v c ≤ v (2 * i + 4))
    (uo : ∀ x, x ≠ i → x ≠ c → x ≠ c + 1 → u x = v x) (ui : u i = v c)
    (uc : (c + 1 < n ∧ v (c + 1) < v i ∧ u c = v (c + 1) ∧ u (c + 1) = v i) ∨ ((c + 1 < n → v i ≤ v (c + 1)) ∧ u c = v i ∧ u (c + 1) = v (c + 1))) : Done u n c d := by
  have lpc : lp c = i := by unfold lp; omega
  have lpc1 : lp (c + 1) = i := by unfold lp; omega
  have Pi := h.P i hi (by omega)
  have Pc : c + 1 < n → v c ≤ v (c + 1) := fun h' => h.P c (by omega) h'
  have Hc1 : c + 1 < n → v (c + 1) ≤ v (i + 1) := fun h' => by
    have := h.H (c + 1) (by omega) h' (Done.none hd (by omega) h'); rwa [lpc1] at this
  have ui1 : u (i + 1) = v (i + 1) := uo _ (by omega) (by omega) (by omega)
  refine ⟨?_, ?_, ?_, ?_, ?_⟩
  · intro a ha hn'
    have := h.P a ha hn'
    by_cases e1 : a = i
    · subst e1; rw [ui, ui1]; omega
    · by_cases e2 : a = c
      · subst e2; rcases uc with ⟨_, q1, q2, q3⟩ | ⟨q1, q2, q3⟩
        · rw [q2, q3]; omega
        · rw [q2, q3]; exact q1 hn'
      · rw [uo a e1 e2 (by omega), uo (a + 1) (by omega) (by omega) (by omega)]; exact this
  · intro j hj2 hj hd'
    have g := lp_facts j hj2
    by_cases e1 : j = i
    · subst e1
      rw [ui, uo (lp j) (by omega) (by omega) (by omega)]
      exact h.CL c (by omega) hcn lpc hj2
    · by_cases e2 : lp j = i
      · rw [e2, ui]
        by_cases e3 : j = c
        · subst e3; rcases uc with ⟨q0, q1, q2, q3⟩ | ⟨q1, q2, q3⟩
          · rw [q2]; exact Pc q0
          · rw [q2]; omega
        · by_cases e4 : j = c + 1
          · subst e4; rcases uc with ⟨q0, q1, q2, q3⟩ | ⟨q1, q2, q3⟩
            · rw [q3]; omega
            · rw [q3]; exact Pc hj
          · rw [uo j e1 e3 e4]
            have cases4 : j = 2 * i + 2 ∨ j = 2 * i + 3 ∨ j = 2 * i + 4 ∨ j = 2 * i + 5 := by omega
            rcases cases4 with rfl | rfl | rfl | rfl
            · exact h1 hj
            · have := h1 (by omega); have q : v (2 * i + 2) ≤ v (2 * i + 3) := h.P (2 * i + 2) (by omega) (by omega); omega
            · exact h2 hj
            · have := h2 (by omega); have q : v (2 * i + 4) ≤ v (2 * i + 5) := h.P (2 * i + 4) (by omega) (by omega); omega
      · have hl := h.L j hj2 hj e2
        rw [uo (lp j) e2 hd' (by omega), uo j e1 (by intro e; rw [e, lpc] at e2; exact e2 rfl) (by intro e; rw [e, lpc1] at e2; exact e2 rfl)]
        exact hl
  · intro j hj2 hj hd'
    have g := lp_facts j hj2
    have hh := h.H j hj2 hj hd'
    by_cases e1 : j = i
    · subst e1
      rw [ui, uo (lp j + 1) (by omega) (by omega) (by omega)]; omega
    · by_cases e2 : lp j = i
      · rw [e2, ui1]
        rw [e2] at hh
        by_cases e3 : j = c
        · subst e3; rcases uc with ⟨q0, q1, q2, q3⟩ | ⟨q1, q2, q3⟩
          · rw [q2]; exact Hc1 q0
          · rw [q2]; exact Pi
        · by_cases e4 : j = c + 1
          · subst e4; rcases uc with ⟨q0, q1, q2, q3⟩ | ⟨q1, q2, q3⟩
            · rw [q3]; exact Pi
            · rw [q3]; exact Hc1 hj
          · rw [uo j e1 e3 e4]; exact hh
      · have n3 : j ≠ c := by intro e; rw [e, lpc] at e2; exact e2 rfl
        have n4 : j ≠ c + 1 := by intro e; rw [e, lpc1] at e2; exact e2 rfl
        rw [uo j e1 n3 n4]
        by_cases e5 : lp j = c
        · rw [e5] at hh ⊢
          rcases uc with ⟨q0, q1, q2, q3⟩ | ⟨q1, q2, q3⟩
          · rw [q3]; omega
          · rw [q3]; exact hh
        · rw [uo (lp j + 1) (by omega) (by omega) (by omega)]; exact hh
  · intro j hj2 hj e h2'
    have g := lp_facts j hj2
    rw [lpc, ui, uo j (by omega) (by omega) (by omega)]
    have := h.L j hj2 hj (by omega)
    rwa [e] at this
  · intro j hj2 hj e h2'
    exact (Done.none hd hj2 hj e).elim
/-- .. on the high side. c: the child's pair. b: its upper end, or its only one. -/
theorem stepDH {v u : Nat → Int} {n i d b : Nat} (h : Done v n d i) (hd : n ≤ d) (hi : i % 2 = 0) (hb : lp b = i) (hb2 : 2 ≤ b) (hbn : b < n) (hbo : b % 2 = 1 ∨ b + 1 = n) (hlt : v (i + 1) < v b)
    (hm : ∀ j, 2 ≤ j → j < n → lp j = i → (j % 2 = 1 ∨ j + 1 = n) → v j ≤ v b)
    (uo : ∀ x, x ≠ i + 1 → x ≠ lo b → x ≠ lo b + 1 → u x = v x) (ui : u (i + 1) = v b)
    (uc : (b % 2 = 1 ∧ ((v (i + 1) < v (lo b) ∧ u (lo b) = v (i + 1) ∧ u (lo b + 1) = v (lo b)) ∨ (v (lo b) ≤ v (i + 1) ∧ u (lo b) = v (lo b) ∧ u (lo b + 1) = v (i + 1)))) ∨ (b % 2 = 0 ∧ u b = v (i + 1))) : Done u n d (lo b) := by
  have gb := lp_facts b hb2
  have lpl : lp (lo b) = i := by rw [lp_lo]; exact hb
  have lpl1 : lp (lo b + 1) = i := by rw [lp_pair _ (by omega)]; exact lpl
  have hin : i + 1 < n := by omega
  have Pi := h.P i hi hin
  have ui1 : u i = v i := uo _ (by omega) (by omega) (by omega)
  have hlob : b % 2 = 1 → lo b + 1 = b := by intro _; omega
  have hlob0 : b % 2 = 0 → lo b = b := by intro _; omega
  have Pb : b % 2 = 1 → v (lo b) ≤ v b := fun h' => by have := h.P (lo b) (by omega) (by omega); rwa [hlob h'] at this
  have Lb : v i ≤ v (lo b) := by have := h.L (lo b) (by omega) (by omega) (Done.none hd (by omega) (by omega)); rwa [lpl] at this
  have each : ∀ j, 2 ≤ j → j < n → lp j = i → v j ≤ v b := fun j hj2 hj e => by
    by_cases hp : j % 2 = 1 ∨ j + 1 = n
    · exact hm j hj2 hj e hp
    · have h1 := hm (j + 1) (by omega) (by omega) (by rw [lp_pair j (by omega)]; exact e) (by omega)
      have h2 := h.P j (by omega) (by omega)
      omega
  refine ⟨?_, ?_, ?_, ?_, ?_⟩
  · intro a ha hn'
    have := h.P a ha hn'
    by_cases e1 : a = i
    · subst e1; rw [ui, ui1]; omega
    · by_cases e2 : a = lo b
      · subst e2; rcases uc with ⟨q0, ⟨q1, q2, q3⟩ | ⟨q1, q2, q3⟩⟩ | ⟨q0, q1⟩
        · rw [q2, q3]; omega
        · rw [q2, q3]; exact q1
        · omega
      · rw [uo a (by omega) e2 (by omega), uo (a + 1) (by omega) (by omega) (by omega)]; exact this
  · intro j hj2 hj hd'
    have g := lp_facts j hj2
    have hl := h.L j hj2 hj hd'
    by_cases e1 : j = i + 1
    · subst e1
      have : lp (i + 1) = lp i := lp_pair i hi
      rw [ui, uo (lp (i + 1)) (by omega) (by omega) (by omega)]; omega
    · by_cases e2 : lp j = i
      · rw [e2, ui1]
        rw [e2] at hl
        by_cases e3 : j = lo b
        · subst e3; rcases uc with ⟨q0, ⟨q1, q2, q3⟩ | ⟨q1, q2, q3⟩⟩ | ⟨q0, q1⟩
          · rw [q2]; omega
          · rw [q2]; exact hl
          · rw [hlob0 q0, q1]; omega
        · by_cases e4 : j = lo b + 1
          · subst e4; rcases uc with ⟨q0, ⟨q1, q2, q3⟩ | ⟨q1, q2, q3⟩⟩ | ⟨q0, q1⟩
            · rw [q3]; omega
            · rw [q3]; omega
            · omega
          · rw [uo j e1 e3 e4]; exact hl
      · have n3 : j ≠ lo b := by intro e; rw [e, lpl] at e2; exact e2 rfl
        have n4 : j ≠ lo b + 1 := by intro e; rw [e, lpl1] at e2; exact e2 rfl
        rw [uo j e1 n3 n4]
        by_cases e5 : lp j = lo b
        · rw [e5] at hl ⊢
          rcases uc with ⟨q0, ⟨q1, q2, q3⟩ | ⟨q1, q2, q3⟩⟩ | ⟨q0, q1⟩
          · rw [q2]; omega
          · rw [q2]; exact hl
          · omega
        · rw [uo (lp j) (by omega) e5 (by omega)]; exact hl
  · intro j hj2 hj hd'
    have g := lp_facts j hj2
    by_cases e1 : j = i + 1
    · subst e1
      have e0 : lp (i + 1) = lp i := lp_pair i hi
      rw [ui, e0]
      have gi := lp_facts i (by unfold lo at g; omega)
      rw [uo (lp i + 1) (by omega) (by omega) (by omega)]
      exact h.CH b hb2 hbn hb (by omega)
    · by_cases e2 : lp j = i
      · rw [e2, ui]
        by_cases e3 : j = lo b
        · subst e3; rcases uc with ⟨q0, ⟨q1, q2, q3⟩ | ⟨q1, q2, q3⟩⟩ | ⟨q0, q1⟩
          · rw [q2]; omega
          · rw [q2]; exact Pb q0
          · rw [hlob0 q0, q1]; omega
        · by_cases e4 : j = lo b + 1
          · subst e4; rcases uc with ⟨q0, ⟨q1, q2, q3⟩ | ⟨q1, q2, q3⟩⟩ | ⟨q0, q1⟩
            · rw [q3]; exact Pb q0
            · rw [q3]; omega
            · omega
          · rw [uo j e1 e3 e4]; exact each j hj2 hj e2
      · have hh := h.H j hj2 hj e2
        have n3 : j ≠ lo b := by intro e; rw [e, lpl] at e2; exact e2 rfl
        have n4 : j ≠ lo b + 1 := by intro e; rw [e, lpl1] at e2; exact e2 rfl
        rw [uo j e1 n3 n4, uo (lp j + 1) (by omega) (by omega) (by omega)]; exact hh
  · intro j hj2 hj e h2'
    exact (Done.none hd hj2 hj e).elim
  · intro j hj2 hj e h2'
    have g := lp_facts j hj2
    rw [lpl, ui, uo j (by omega) (by omega) (by omega)]
    have hh := h.H j hj2 hj (by omega)
    rw [e] at hh
    by_cases q : b % 2 = 1
    · rw [hlob q] at hh; exact hh
    · omega
end Go.Proofs.Ytjgionnigenijaa.Heap
