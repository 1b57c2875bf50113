import Derived.Test.YtchaijafpmofdaaSlB
/-! A region whose order is open: the check, and the theorem. -/
namespace Go.Sl
set_option linter.unusedVariables false
set_option linter.unusedSimpArgs false

def maskOf (ms : List Nat) (o : Oper) : Nat :=
  o.after.toList.foldl (fun s e => if Region.binds .any e then s ||| 2 ^ e.on ||| ms.getD e.on 0 else s) 0
def masks : List Oper → List Nat → List Nat
  | [], ms => ms
  | o :: rest, ms => masks rest (ms ++ [maskOf ms o])
def pairOk (ops : Array Oper) (dl : Cls) (ov : List (Tmp × Cls)) (j i : Oper) : Bool := mayPass (clsOf dl ov j) (clsOf dl ov i) && Oper.apart ops j i
def regionChk (n : Nat) (dl : Cls) (ov : List (Tmp × Cls)) (l : List Oper) : Bool :=
  let ms := masks l []
  Region.noSelect l.toArray && l.all (dstOk n) &&
  (List.range l.length).all fun i =>
    match l[i]? with
    | none => true
    | some oi => (oi.after.toList.all fun e => !Region.binds .any e || Nat.blt e.on i) &&
      (List.range i).all fun j => match l[j]? with
        | none => true
        | some oj => (ms.getD i 0).testBit j || pairOk l.toArray dl ov oj oi

/-- j comes ahead of i in every order. -/
inductive Reach (l : List Oper) : Nat → Nat → Prop where
  | one {j i : Nat} {o : Oper} {e : Edge} (hi : l[i]? = some o) (he : e ∈ o.after) (hb : Region.binds .any e = true) (hj : e.on = j) : Reach l j i
  | step {j k i : Nat} {o : Oper} {e : Edge} (h : Reach l j k) (hi : l[i]? = some o) (he : e ∈ o.after) (hb : Region.binds .any e = true) (hk : e.on = k) : Reach l j i

theorem maskOf_reach (l : List Oper) (ms : List Nat) (hms : ∀ k j, k < ms.length → (ms.getD k 0).testBit j = true → Reach l j k) (i : Nat) (o : Oper) (hi : l[i]? = some o) (j : Nat)
    (h : (maskOf ms o).testBit j = true) : Reach l j i := by
  unfold maskOf at h
  have key : ∀ (es : List Edge) (s : Nat), (∀ e ∈ es, e ∈ o.after) → (s.testBit j = true → Reach l j i) →
      (es.foldl (fun s e => if Region.binds .any e then s ||| 2 ^ e.on ||| ms.getD e.on 0 else s) s).testBit j = true → Reach l j i := by
    intro es
    induction es with
    | nil => intro s _ hs h; exact hs h
    | cons e es ih =>
      intro s hin hs h
      refine ih _ (fun e he => hin e (List.mem_cons_of_mem _ he)) ?_ h
      intro hb
      dsimp only at hb
      split at hb
      · rename_i hbind
        rw [Nat.testBit_or, Nat.testBit_or, Bool.or_eq_true, Bool.or_eq_true] at hb
        have hmem := hin e (List.mem_cons_self ..)
        rcases hb with (hb | hb) | hb
        · exact hs hb
        · rw [Nat.testBit_two_pow] at hb
          exact .one hi hmem hbind (by simpa using hb)
        · by_cases hlt : e.on < ms.length
          · exact .step (hms e.on j hlt hb) hi hmem hbind rfl
          · rw [List.getD_eq_getElem?_getD, List.getElem?_eq_none (by omega)] at hb
            simp at hb
      · exact hs hb
  exact key o.after.toList 0 (by simp) (by simp) h

theorem masks_reach (l : List Oper) : ∀ (rest : List Oper) (ms : List Nat), (∀ k, rest[k]? = l[ms.length + k]?) →
    (∀ k j, k < ms.length → (ms.getD k 0).testBit j = true → Reach l j k) →
    ∀ k j, k < (masks rest ms).length → ((masks rest ms).getD k 0).testBit j = true → Reach l j k := by
  intro rest
  induction rest with
  | nil => intro ms _ h; exact h
  | cons o rest ih =>
    intro ms hr h
    simp only [masks]
    have h0 : l[ms.length]? = some o := by simpa using (hr 0).symm
    refine ih (ms ++ [maskOf ms o]) ?_ ?_
    · intro k
      have := hr (k + 1)
      simp only [List.getElem?_cons_succ] at this
      rw [this, List.length_append]
      congr 1
      simp; omega
    · intro k j hk hb
      by_cases hlt : k < ms.length
      · rw [List.getD_eq_getElem?_getD, List.getElem?_append_left hlt, ← List.getD_eq_getElem?_getD] at hb
        exact h k j hlt hb
      · have hk' : k = ms.length := by simp at hk; omega
        subst hk'
        rw [List.getD_eq_getElem?_getD, List.getElem?_append_right (Nat.le_refl _)] at hb
        simp at hb
        exact maskOf_reach l ms h _ o h0 j hb
theorem masks_length : ∀ (l : List Oper) (ms : List Nat), (masks l ms).length = ms.length + l.length
  | [], ms => by simp [masks]
  | o :: l, ms => by simp only [masks]; rw [masks_length l]; simp; omega

section
variable {P : Program} {n : Nat} {dl : Cls} {ov : List (Tmp × Cls)} {Q : Env → List As → Prop}

theorem LW.pull {ops : Array Oper} (hQ : ∀ e M N, M.Perm N → Q e M → Q e N) {i : Oper} {post : List Oper} : ∀ (pre : List Oper) {e : Env} {S A : List As}, Wit n e (S ++ A) →
    (∀ j ∈ pre, Apart ops n j i ∧ mayPass (clsOf dl ov j) (clsOf dl ov i) = true) →
    LW P n ops dl ov Q (pre ++ i :: post) e S A → LW P n ops dl ov Q (i :: (pre ++ post)) e S A := by
  intro pre
  induction pre with
  | nil => intro e S A _ _ h; exact h
  | cons j pre ih =>
    intro e S A hwit hall h
    have hj := hall j (List.mem_cons_self ..)
    have hall' : ∀ k ∈ pre, _ := fun k hk => hall k (List.mem_cons_of_mem _ hk)
    refine LW.swap hQ hj.1 hj.2 hwit ?_
    obtain ⟨⟨a, ha⟩, w, hs⟩ := hwit
    cases h with
    | val v hv h => exact .val v hv (ih (Wit.mk' (ha.put hj.1.xn v) hs) hall' h)
    | new mk obj hw hc hn h => exact .new mk obj hw hc hn (fun b hwit => ih hwit hall' (h b hwit))
    | ext R hw hc hr h => exact .ext R hw hc hr (fun v X hx hwit => ih hwit hall' (h v X hx hwit))
    | run R hw hc hr h => exact .run R hw hc hr (fun v M hx hwit => ih (by simpa using hwit) hall' (h v M hx hwit))
    | cal R hw hc hr h => exact .cal R hw hc hr (fun v M hx hwit => ih hwit hall' (h v M hx hwit))
    | rune R hw hc hr h => exact .rune R hw hc hr (fun v S1 A1 hx hwit => ih hwit hall' (h v S1 A1 hx hwit))

/-- The head of what is left is carried out. -/
theorem LW.exec {ops : Array Oper} {o : Oper} {rest : List Oper} {e : Env} {S A F : List As} {a : Act} {w : World} (hd : dstOk n o = true) (ha : EnvOk a n e) (hs : Sat w (S ++ A ++ F))
    (h : LW P n ops dl ov Q (o :: rest) e S A) {K : Act → World → Prop} {Qx : Exit → Act → World → Prop}
    (hk : ∀ e' S' A' a' w', LW P n ops dl ov Q rest e' S' A' → EnvOk a' n e' → Sat w' (S' ++ A' ++ F) → Nx w w' → K a' w') :
    if Region.wanted o (yielded ops a.tmps) = true then o.wp P a w K Qx ∨ (o.asks P a w ∧ LetsOut Qx) else K (a.put o.dst undef) w := by
  have hS : Sat w S := (hs.ent Ent.dropr).ent Ent.dropr
  have hA : Sat w A := (hs.ent Ent.dropr).ent Ent.dropl
  cases h with
  | val v hv h =>
    rcases hv with ⟨hw, rfl⟩ | ⟨hw, hc, hp⟩ | ⟨hw, hc, hp⟩ | ⟨hw, hc, hp⟩
    · rw [if_neg (by rw [wants_sound ha hw]; simp)]
      exact hk _ _ _ _ _ h (ha.put hd _) hs (Nx.refl _)
    · rw [if_pos (wants_sound ha hw)]
      refine .inl ?_
      unfold Oper.wp
      rw [hp a w ha]
      exact hk _ _ _ _ _ h (ha.put hd _) hs (Nx.refl _)
    · rw [if_pos (wants_sound ha hw)]
      refine .inl ?_
      unfold Oper.wp
      rw [hp a w ha hS]
      exact hk _ _ _ _ _ h (ha.put hd _) hs (Nx.refl _)
    · rw [if_pos (wants_sound ha hw)]
      refine .inl ?_
      unfold Oper.wp
      rw [hp a w ha hA]
      exact hk _ _ _ _ _ h (ha.put hd _) hs (Nx.refl _)
  | new mk obj hw hc hn h =>
    rw [if_pos (wants_sound ha hw)]
    refine .inl ?_
    unfold Oper.wp
    rw [hn a w ha]
    have hs' : Sat (w.alloc obj) (S ++ (pt w.heap.size obj :: A) ++ F) := (hs.alloc obj).ent (by
      refine Ent.perm ?_
      rw [List.append_assoc, List.append_assoc]
      exact List.perm_middle.symm)
    exact hk _ _ _ _ _ (h w.heap.size (Wit.mk' (ha.put hd _) (hs'.ent Ent.dropr))) (ha.put hd _) hs' (Nx.alloc _ _)
  | ext R hw hc hr h =>
    rw [if_pos (wants_sound ha hw)]
    refine .inl ((hr F a w ha hs).wp ?_)
    rintro v w' ⟨M', ⟨X, hx, rfl⟩, hs', hn⟩
    have hs2 : Sat w' (S ++ (X ++ A) ++ F) := hs'.ent (by
      refine Ent.perm ?_
      refine List.Perm.append_right F ?_
      rw [← List.append_assoc, ← List.append_assoc]
      exact List.perm_append_comm.append_right A)
    exact hk _ _ _ _ _ (h v X hx (Wit.mk' (ha.put hd _) (hs2.ent Ent.dropr))) (ha.put hd _) hs2 hn
  | run R hw hc hr h =>
    rw [if_pos (wants_sound ha hw)]
    refine .inl ((hr F a w ha hs).wp ?_)
    rintro v w' ⟨M', hx, hs', hn⟩
    exact hk _ _ _ _ _ (h v M' hx (Wit.mk' (ha.put hd _) (hs'.ent Ent.dropr))) (ha.put hd _) (by simpa using hs') hn
  | cal R hw hc hr h =>
    rw [if_pos (wants_sound ha hw)]
    have hs0 : Sat w (A ++ (S ++ F)) := hs.ent (by
      refine Ent.perm ?_
      rw [← List.append_assoc]
      exact List.perm_append_comm.append_right F)
    refine .inl ((hr (S ++ F) a w ha hs0).wp ?_)
    rintro v w' ⟨M', hx, hs', hn⟩
    have hs2 : Sat w' (S ++ M' ++ F) := hs'.ent (by
      refine Ent.perm ?_
      rw [← List.append_assoc]
      exact List.perm_append_comm.append_right F)
    exact hk _ _ _ _ _ (h v M' hx (Wit.mk' (ha.put hd _) (hs2.ent Ent.dropr))) (ha.put hd _) hs2 hn
  | rune R hw hc hr h =>
    rw [if_pos (wants_sound ha hw)]
    refine .inl ((hr F a w ha hs).wp ?_)
    rintro v w' ⟨M', ⟨S1, A1, hx, rfl⟩, hs', hn⟩
    exact hk _ _ _ _ _ (h v S1 A1 hx (Wit.mk' (ha.put hd _) (hs'.ent Ent.dropr))) (ha.put hd _) hs' hn

def left (N : Nat) (listed : Array Bool) : List Nat := (List.range N).filter fun i => !listed.getD i true

theorem left_parts {N : Nat} {listed : Array Bool} {i : Nat} (hi : i ∈ left N listed) (hN : listed.size = N) :
    ∃ pre post, left N listed = pre ++ i :: post ∧ (∀ j ∈ pre, j < i ∧ listed.getD j true = false) ∧ left N (listed.setIfInBounds i true) = pre ++ post := by
  unfold left at *
  have hmem := hi
  rw [List.mem_filter, List.mem_range] at hmem
  obtain ⟨hlt, hf⟩ := hmem
  obtain ⟨pre, post, hpp⟩ := List.append_of_mem hi
  refine ⟨pre, post, hpp, ?_, ?_⟩
  · intro j hj
    have hs : (pre ++ i :: post).Pairwise (· < ·) := by
      rw [← hpp]
      exact (List.pairwise_lt_range (n := N)).filter _
    rw [List.pairwise_append] at hs
    have h1 := hs.2.2 j hj i (List.mem_cons_self ..)
    have h2 : j ∈ (List.range N).filter (fun i => !listed.getD i true) := by rw [hpp]; exact List.mem_append_left _ hj
    rw [List.mem_filter] at h2
    exact ⟨h1, by simpa using h2.2⟩
  · have hstep : (List.range N).filter (fun k => !(listed.setIfInBounds i true).getD k true) = ((List.range N).filter (fun k => !listed.getD k true)).filter (fun k => k != i) := by
      rw [List.filter_filter]
      refine List.filter_congr ?_
      intro k hk
      by_cases hki : i = k
      · subst hki
        simp [Array.getElem?_setIfInBounds_self, hN, hlt]
      · rw [getD_set_ne true hki]
        have : (k != i) = true := by simp; exact fun e => hki e.symm
        simp [this]
    rw [hstep, hpp, List.filter_append, List.filter_cons]
    have hs : (pre ++ i :: post).Pairwise (· < ·) := by
      rw [← hpp]
      exact (List.pairwise_lt_range (n := N)).filter _
    rw [List.pairwise_append, List.pairwise_cons] at hs
    have h1 : pre.filter (fun k => k != i) = pre := List.filter_eq_self.2 (fun k hk => by have := hs.2.2 k hk i (List.mem_cons_self ..); simp; omega)
    have h2 : post.filter (fun k => k != i) = post := List.filter_eq_self.2 (fun k hk => by have := hs.2.1.1 k hk; simp; omega)
    rw [h1, h2]
    simp

theorem regionChk_spec {l : List Oper} (h : regionChk n dl ov l = true) :
    (∀ o ∈ l, dstOk n o = true) ∧ (∀ (i : Nat) o, l[i]? = some o → ∀ e ∈ o.after, Region.binds .any e = true → e.on < i) ∧
    (∀ (i j : Nat) oi oj, l[i]? = some oi → l[j]? = some oj → j < i → ¬ Reach l j i → Apart l.toArray n oj oi ∧ mayPass (clsOf dl ov oj) (clsOf dl ov oi) = true) := by
  unfold regionChk at h
  simp only [Bool.and_eq_true, List.all_eq_true] at h
  obtain ⟨⟨hns, hd⟩, hp⟩ := h
  refine ⟨hd, ?_, ?_⟩
  · intro i o hi e he hb
    have hlt : i < l.length := (List.getElem?_eq_some_iff.1 hi).1
    have := hp i (List.mem_range.2 hlt)
    rw [hi] at this
    simp only [Bool.and_eq_true, List.all_eq_true] at this
    have h1 := this.1 e (by simpa using he)
    rw [hb] at h1
    simpa [Nat.blt_eq] using h1
  · intro i j oi oj hi hj hji hnr
    have hlt : i < l.length := (List.getElem?_eq_some_iff.1 hi).1
    have := hp i (List.mem_range.2 hlt)
    rw [hi] at this
    simp only [Bool.and_eq_true, List.all_eq_true] at this
    have h1 := this.2 j (List.mem_range.2 hji)
    rw [hj] at h1
    simp only [Bool.or_eq_true] at h1
    rcases h1 with h1 | h1
    · exact absurd (masks_reach l l [] (by simp) (by simp) i j (by rw [masks_length]; simpa using hlt) h1) hnr
    · unfold pairOk at h1
      rw [Bool.and_eq_true] at h1
      obtain ⟨a1, a2, a3⟩ := Oper.apart_spec h1.2
      refine ⟨⟨a1, a3, a2, hd _ (List.mem_of_getElem? hj), hd _ (List.mem_of_getElem? hi), ?_, ?_⟩, h1.1⟩
      · exact fun cs b => Region.noSelect_spec hns j oj cs b (by simpa using hj)
      · exact fun cs b => Region.noSelect_spec hns i oi cs b (by simpa using hi)

theorem region_any {l : List Oper} (hchk : regionChk n dl ov l = true) (hQ : ∀ e M N, M.Perm N → Q e M → Q e N) {Qx : Exit → Act → World → Prop} {F : List As} {w0 : World}
    (hend : ∀ e M a' w', Q e M → EnvOk a' n e → Sat w' (M ++ F) → Nx w0 w' → Qx .normal a' w') :
    ∀ (fuel : Nat) (listed : Array Bool) (e : Env) (S A : List As) (a : Act) (w : World), listed.size = l.length →
      (∀ (i : Nat) o, l[i]? = some o → listed.getD i true = true → ∀ e ∈ o.after, Region.binds .any e = true → listed.getD e.on false = true) →
      (left l.length listed).length = fuel →
      LW P n l.toArray dl ov Q ((left l.length listed).map (fun i => l.getD i default)) e S A → EnvOk a n e → Sat w (S ++ A ++ F) → Nx w0 w →
      wpAny P .any l.toArray Qx fuel listed a w := by
  obtain ⟨hd, hback, hpair⟩ := regionChk_spec hchk
  have hready : ∀ (listed : Array Bool) i, i ∈ Region.ready .any l.toArray listed → i ∈ left l.length listed := by
    intro listed i hi
    rw [mem_ready] at hi
    obtain ⟨h1, o, h2, _⟩ := hi
    unfold left
    rw [List.mem_filter, List.mem_range]
    have : l[i]? = some o := by simpa using h2
    exact ⟨(List.getElem?_eq_some_iff.1 this).1, by simp [h1]⟩
  intro fuel
  induction fuel with
  | zero =>
    intro listed e S A a w hsz hcl hlen hlw ha hs hn
    have hnil : left l.length listed = [] := List.eq_nil_of_length_eq_zero hlen
    rw [hnil] at hlw
    refine ⟨?_, ?_⟩
    · cases hr : Region.ready .any l.toArray listed with
      | nil => rfl
      | cons i r => have := hready listed i (by rw [hr]; exact List.mem_cons_self ..); rw [hnil] at this; cases this
    · cases hlw with
      | nil h => exact hend _ _ _ _ h ha hs hn
  | succ fuel ih =>
    intro listed e S A a w hsz hcl hlen hlw ha hs hn
    refine ⟨?_, ?_⟩
    · intro hr
      exfalso
      -- the first that is left is ready
      cases hl : left l.length listed with
      | nil => rw [hl] at hlen; cases hlen
      | cons i r =>
        have hi : i ∈ left l.length listed := by rw [hl]; exact List.mem_cons_self ..
        have hi' := hi
        unfold left at hi'
        rw [List.mem_filter, List.mem_range] at hi'
        obtain ⟨o, ho⟩ : ∃ o, l[i]? = some o := ⟨_, List.getElem?_eq_getElem hi'.1⟩
        have hmem : i ∈ Region.ready .any l.toArray listed := by
          rw [mem_ready]
          refine ⟨by simpa using hi'.2, o, by simpa using ho, ?_⟩
          intro e he hb
          have hlt := hback i o ho e he hb
          cases hx : listed.getD e.on false with
          | true => rfl
          | false =>
            exfalso
            have hex : e.on < l.length := Nat.lt_trans hlt hi'.1
            have hxt : listed.getD e.on true = false := by
              have : e.on < listed.size := by omega
              simp only [Array.getD_eq_getD_getElem?, Array.getElem?_eq_getElem this, Option.getD_some] at hx ⊢
              exact hx
            have hin : e.on ∈ left l.length listed := by
              unfold left
              rw [List.mem_filter, List.mem_range]
              exact ⟨hex, by simp [hxt]⟩
            rw [hl] at hin
            have hp : (left l.length listed).Pairwise (· < ·) := (List.pairwise_lt_range (n := l.length)).filter _
            rw [hl, List.pairwise_cons] at hp
            rcases List.mem_cons.1 hin with h | h
            · omega
            · have := hp.1 _ h; omega
        rw [hr] at hmem
        cases hmem
    · intro i hi
      have hin := hready listed i hi
      rw [mem_ready] at hi
      obtain ⟨h1, oi, h2, h3⟩ := hi
      have ho : l[i]? = some oi := by simpa using h2
      obtain ⟨pre, post, hpp, hpre, hnext⟩ := left_parts hin hsz
      have hlistedOf : ∀ j, Reach l j i → listed.getD j false = true := by
        intro j hr
        have gen : ∀ j k, Reach l j k → (∀ o, l[k]? = some o → ∀ e ∈ o.after, Region.binds .any e = true → listed.getD e.on false = true) → listed.getD j false = true := by
          intro j k hr
          induction hr with
          | one hi he hb hj => intro h; rw [← hj]; exact h _ hi _ he hb
          | step h hi he hb hk ih2 =>
            intro hk2
            refine ih2 ?_
            intro o ho e he' hb'
            have hl := hk2 _ hi _ he hb
            rw [hk] at hl
            exact hcl _ o ho (by
              rename_i k' _ _ _
              have hlt : k' < listed.size := by
                rcases Nat.lt_or_ge k' listed.size with h | h
                · exact h
                · simp only [Array.getD_eq_getD_getElem?, Array.getElem?_eq_none h] at hl; cases hl
              simp only [Array.getD_eq_getD_getElem?, Array.getElem?_eq_getElem hlt, Option.getD_some] at hl ⊢
              exact hl) e he' hb'
        exact gen j i hr (fun o ho' e he hb => by rw [ho] at ho'; cases ho'; exact h3 e he hb)
      rw [hpp, List.map_append, List.map_cons] at hlw
      have hoi : l.getD i default = oi := by rw [List.getD_eq_getElem?_getD, ho]; rfl
      rw [hoi] at hlw
      have hwit : Wit n e (S ++ A) := Wit.mk' ha (hs.ent Ent.dropr)
      have hlw' := LW.pull hQ (pre.map fun i => l.getD i default) hwit ?hall hlw
      case hall =>
        intro oj hj
        rw [List.mem_map] at hj
        obtain ⟨j, hj, rfl⟩ := hj
        obtain ⟨hji, hjl⟩ := hpre j hj
        have hjlt : j < l.length := Nat.lt_trans hji (List.getElem?_eq_some_iff.1 ho).1
        have hoj : l[j]? = some (l.getD j default) := by rw [List.getD_eq_getElem?_getD, List.getElem?_eq_getElem hjlt]; rfl
        refine hpair i j oi _ ho hoj hji ?_
        intro hr
        have := hlistedOf j hr
        have hlt : j < listed.size := by omega
        simp only [Array.getD_eq_getD_getElem?, Array.getElem?_eq_getElem hlt, Option.getD_some] at this hjl
        rw [this] at hjl
        cases hjl
      rw [← List.map_append, ← hnext] at hlw'
      unfold wpOp
      rw [h2]
      refine LW.exec (hd oi (List.mem_of_getElem? ho)) ha hs hlw' ?_
      intro e' S' A' a' w' hl' ha' hs' hn'
      refine ih (listed.setIfInBounds i true) e' S' A' a' w' (by simp [hsz]) ?_ ?_ hl' ha' hs' (hn.trans hn')
      · intro k o hk hlk ed hed hb
        by_cases hki : i = k
        · subst hki
          rw [ho] at hk
          cases hk
          exact getD_set_true (h3 ed hed hb)
        · rw [getD_set_ne true hki] at hlk
          exact getD_set_true (hcl k o hk hlk ed hed hb)
      · rw [hnext]
        rw [hpp] at hlen
        simp at hlen ⊢
        omega
end
end Go.Sl
