import Derived.Test.YtchaijafpmofdaaSlD
import Derived.Deep.LoopGhost
/-! Code, and a function's contract. -/
namespace Go.Sl
set_option linter.unusedVariables false
set_option linter.unusedSimpArgs false

def look : List (Nat × Value) → Env
  | [], _ => none
  | (k, v) :: r, t => match Nat.beq t k with
    | true => some v
    | false => look r t
/-- What is known of the slots in ρ stands in e. -/
def Sub : List (Nat × Value) → Env → Prop
  | [], _ => True
  | (k, v) :: r, e => e k = some v ∧ Sub r e
theorem Sub.get {ρ : List (Nat × Value)} {e : Env} (h : Sub ρ e) : ∀ t v, look ρ t = some v → e t = some v := by
  induction ρ with
  | nil => intro t v hl; cases hl
  | cons x r ih =>
    obtain ⟨k, u⟩ := x
    intro t v hl
    simp only [look] at hl
    split at hl
    · rename_i hb
      cases hl
      rw [Nat.eq_of_beq_eq_true hb]
      exact h.1
    · exact ih h.2 t v hl
theorem EnvOk.sub {a : Act} {n : Nat} {e : Env} {ρ : List (Nat × Value)} (h : EnvOk a n e) (hs : Sub ρ e) : EnvOk a n (look ρ) := ⟨h.defers, h.size, fun t v ht => h.get t v (hs.get t v ht)⟩

section
variable {P : Program} (Γ : Tab P)
/-- One operation, where the order is the text's. -/
def stepT (ov : List (Tmp × Cls)) (o : Oper) (e : Env) (M : List As) (k : Value → List As → Prop) : Prop :=
  match clsOf .T ov o with
  | .L => newStep (P := P) o e (fun v X => k v (X :: M))
  | .D | .H => runStep (P := P) o e M k
  | _ => getStep Γ o e M (fun v => k v M)
def vcT (ops : Array Oper) (ov : List (Tmp × Cls)) : List Oper → Env → List As → (Env → List As → Prop) → Prop
  | [], e, M, K => K e M
  | o :: rest, e, M, K => match o.guard with
    | none => match o.dst with
      | none => stepT Γ ov o e M (fun v M' => vcT ops ov rest e M' K)
      | some d => stepT Γ ov o e M (fun v M' => vcT ops ov rest (e.upd (some d) v) M' K)
    | some _ => match wants ops e o with
      | none => False
      | some b => LBool b (fun b => match b with
        | true => match o.dst with
          | none => stepT Γ ov o e M (fun v M' => vcT ops ov rest e M' K)
          | some d => stepT Γ ov o e M (fun v M' => vcT ops ov rest (e.upd (some d) v) M' K)
        | false => match o.dst with
          | none => vcT ops ov rest e M K
          | some d => vcT ops ov rest (e.upd (some d) undef) M K)
/-- .. and where it is open. -/
def stepD (dl : Cls) (ov : List (Tmp × Cls)) (o : Oper) (e : Env) (S A : List As) (k : Value → List As → List As → Prop) : Prop :=
  match clsOf dl ov o with
  | .P => getStep Γ o e [] (fun v => k v S A)
  | .T => getStep Γ o e S (fun v => k v S A)
  | .R => getStep Γ o e A (fun v => k v S A)
  | .L => newStep (P := P) o e (fun v X => k v S (X :: A))
  | .H => extStep (P := P) o e (S ++ A) (fun v X => k v S (X ++ A))
  | .D => runStep (P := P) o e (S ++ A) (fun v M' => k v [] M')
  | .C => runStep (P := P) o e A (fun v M' => k v S M')
  | .E => runStep (P := P) o e (S ++ A) (fun v M' => k v M' [])
def vcD (ops : Array Oper) (dl : Cls) (ov : List (Tmp × Cls)) : List Oper → Env → List As → List As → (Env → List As → Prop) → Prop
  | [], e, S, A, K => K e (S ++ A)
  | o :: rest, e, S, A, K => match o.guard with
    | none => match o.dst with
      | none => stepD Γ dl ov o e S A (fun v S' A' => vcD ops dl ov rest e S' A' K)
      | some d => stepD Γ dl ov o e S A (fun v S' A' => vcD ops dl ov rest (e.upd (some d) v) S' A' K)
    | some _ => match wants ops e o with
      | none => False
      | some b => LBool b (fun b => match b with
        | true => match o.dst with
          | none => stepD Γ dl ov o e S A (fun v S' A' => vcD ops dl ov rest e S' A' K)
          | some d => stepD Γ dl ov o e S A (fun v S' A' => vcD ops dl ov rest (e.upd (some d) v) S' A' K)
        | false => match o.dst with
          | none => vcD ops dl ov rest e S A K
          | some d => vcD ops dl ov rest (e.upd (some d) undef) S A K)

def CW (P : Program) (n : Nat) (c : Code) (e : Env) (M : List As) (Q : Exit → Env → List As → Prop) : Prop :=
  ∀ F a w, EnvOk a n e → Sat w (M ++ F) → c.wp P (fun x a' w' => ∃ e' M', Q x e' M' ∧ EnvOk a' n e' ∧ Sat w' (M' ++ F) ∧ Nx w w') a w

structure LDraw (n : Nat) (l : List Oper) (e : Env) (M : List As) (K : Env → List As → Prop) : Prop where
  ex : (∃ dl ov S A, regionChk n dl ov l = true ∧ Ent M (S ++ A) ∧ vcD Γ l.toArray dl ov l e S A K) ∨ ∀ id, CW P n (.region id l.toArray true) e M (fun x e' M' => x = .normal ∧ K e' M')
structure LText (n : Nat) (l : List Oper) (e : Env) (M : List As) (K : Env → List As → Prop) : Prop where
  ex : ∃ ov, l.all (dstOk n) = true ∧ vcT Γ l.toArray ov l e M K
structure LLoop (P : Program) (n : Nat) (c : Code) (e : Env) (M : List As) (Q : Exit → Env → List As → Prop) : Prop where
  h : CW P n (.loop c) e M Q
structure LNext (P : Program) (n : Nat) (c : Code) (e : Env) (M : List As) (Q : Exit → Env → List As → Prop) : Prop where
  h : CW P n c e M Q
structure LCond (b : Bool) (p q : Prop) : Prop where
  t : b = true → p
  f : b = false → q

def cvc (n : Nat) : Code → Env → List As → (Exit → Env → List As → Prop) → Prop
  | .skip, e, M, Q => Q .normal e M
  | .region _ ops draw, e, M, Q => match draw with
    | true => LDraw Γ n ops.toList e M (Q .normal)
    | false => LText Γ n ops.toList e M (Q .normal)
  | .seq a b, e, M, Q => cvc n a e M (fun x e' M' => match x with
    | .normal => LNext P n b e' M' Q
    | x => Q x e' M')
  | .cond c a b, e, M, Q => match ev e c with
    | some (.bool t) => LCond t (cvc n a e M Q) (cvc n b e M Q)
    | _ => False
  | .block id c, e, M, Q => cvc n c e M (fun x e' M' => match x with
    | .exit i => match Nat.beq i id with
      | true => Q .normal e' M'
      | false => Q (.exit i) e' M'
    | x => Q x e' M')
  | .loop c, e, M, Q => LLoop P n c e M Q
  | .exit id, e, M, Q => Q (.exit id) e M
  | .ret, e, M, Q => Q .ret e M
  | .label _, e, M, Q => Q .normal e M
  | _, _, _, _ => False
end

section
variable {P : Program} {Γ : Tab P} {n : Nat}

theorem stepT_ok {ops : Array Oper} {ov : List (Tmp × Cls)} {o : Oper} {e : Env} {M : List As} {k : Value → List As → Prop} (h : stepT Γ ov o e M k) : ∃ R, RunAt P n o e M R ∧ ∀ v M', R v M' → k v M' := by
  unfold stepT at h
  have get : getStep Γ o e M (fun v => k v M) → ∃ R, RunAt P n o e M R ∧ ∀ v M', R v M' → k v M' := fun h => by
    obtain ⟨v, hk, hv⟩ := getStep_ok (n := n) h
    refine ⟨fun u M' => u = v ∧ M' = M, fun F a w ha hs => ?_, fun u M' ⟨e1, e2⟩ => by subst e1; subst e2; exact hk⟩
    rw [hv a w ha (hs.ent Ent.dropr)]
    exact ⟨M, ⟨rfl, rfl⟩, hs, Nx.refl _⟩
  split at h
  · obtain ⟨mk, obj, hn, hk⟩ := newStep_ok (n := n) h
    refine ⟨fun u M' => ∃ b, u = mk b ∧ M' = pt b obj :: M, fun F a w ha hs => ?_, fun u M' ⟨b, e1, e2⟩ => by subst e1; subst e2; exact hk b⟩
    rw [hn a w ha]
    exact ⟨_, ⟨_, rfl, rfl⟩, hs.alloc obj, Nx.alloc _ _⟩
  · exact runStep_ok h
  · exact runStep_ok h
  · exact get h

theorem stepD_ok {ops : Array Oper} {dl : Cls} {ov : List (Tmp × Cls)} {o : Oper} {e : Env} {S A : List As} {Q : Env → List As → Prop} {rest : List Oper} {k : Value → List As → List As → Prop}
    (hw : wants ops e o = some true) (hq : ∀ v S' A', k v S' A' → LW P n ops dl ov Q rest (e.upd o.dst v) S' A')
    (h : stepD Γ dl ov o e S A k) : LW P n ops dl ov Q (o :: rest) e S A := by
  unfold stepD at h
  split at h
  · rename_i hc
    obtain ⟨v, hk, hv⟩ := getStep_ok (n := n) h
    exact .val v (.inr (.inl ⟨hw, hc, fun a w ha => hv a w ha trivial⟩)) (hq _ _ _ hk)
  · rename_i hc
    obtain ⟨v, hk, hv⟩ := getStep_ok (n := n) h
    exact .val v (.inr (.inr (.inl ⟨hw, hc, hv⟩))) (hq _ _ _ hk)
  · rename_i hc
    obtain ⟨v, hk, hv⟩ := getStep_ok (n := n) h
    exact .val v (.inr (.inr (.inr ⟨hw, hc, hv⟩))) (hq _ _ _ hk)
  · rename_i hc
    obtain ⟨mk, obj, hn, hk⟩ := newStep_ok (n := n) h
    exact .new mk obj hw hc hn (fun b _ => hq _ _ _ (hk b))
  · rename_i hc
    obtain ⟨R, hr, hk⟩ := extStep_ok (n := n) h
    exact .ext R hw hc hr (fun v X hx _ => hq _ _ _ (hk v X hx))
  · rename_i hc
    obtain ⟨R, hr, hk⟩ := runStep_ok (n := n) h
    exact .run R hw hc hr (fun v M hx _ => hq _ _ _ (hk v M hx))
  · rename_i hc
    obtain ⟨R, hr, hk⟩ := runStep_ok (n := n) h
    exact .cal R hw hc hr (fun v M hx _ => hq _ _ _ (hk v M hx))
  · rename_i hc
    obtain ⟨R, hr, hk⟩ := runStep_ok (n := n) h
    refine .rune (fun v S1 A1 => R v S1 ∧ A1 = []) hw hc (fun F a w ha hs => ?_) (fun v S1 A1 hx _ => ?_)
    · refine (hr F a w ha hs).mono ?_
      rintro v w' ⟨M', h1, h2, h3⟩
      exact ⟨M', ⟨M', [], ⟨h1, rfl⟩, by simp⟩, h2, h3⟩
    · obtain ⟨hx1, rfl⟩ := hx
      exact hq _ _ _ (hk v S1 hx1)

theorem wants_none {ops : Array Oper} {o : Oper} {e : Env} (h : o.guard = none) : wants ops e o = some true := by simp [wants, h]

theorem vcD_cons {ops : Array Oper} {dl : Cls} {ov : List (Tmp × Cls)} {K : Env → List As → Prop} (o : Oper) (rest : List Oper) (e : Env) (S A : List As) : vcD Γ ops dl ov (o :: rest) e S A K = (match o.guard with
    | none => stepD Γ dl ov o e S A (fun v S' A' => vcD Γ ops dl ov rest (e.upd o.dst v) S' A' K)
    | some _ => match wants ops e o with
      | none => False
      | some b => LBool b (fun b => match b with
        | true => stepD Γ dl ov o e S A (fun v S' A' => vcD Γ ops dl ov rest (e.upd o.dst v) S' A' K)
        | false => vcD Γ ops dl ov rest (e.upd o.dst undef) S A K)) := by
  cases hd : o.dst with
  | none => simp only [vcD, hd]; rfl
  | some d => simp only [vcD, hd]
theorem vcT_cons {ops : Array Oper} {ov : List (Tmp × Cls)} {K : Env → List As → Prop} (o : Oper) (rest : List Oper) (e : Env) (M : List As) : vcT Γ ops ov (o :: rest) e M K = (match o.guard with
    | none => stepT Γ ov o e M (fun v M' => vcT Γ ops ov rest (e.upd o.dst v) M' K)
    | some _ => match wants ops e o with
      | none => False
      | some b => LBool b (fun b => match b with
        | true => stepT Γ ov o e M (fun v M' => vcT Γ ops ov rest (e.upd o.dst v) M' K)
        | false => vcT Γ ops ov rest (e.upd o.dst undef) M K)) := by
  cases hd : o.dst with
  | none => simp only [vcT, hd]; rfl
  | some d => simp only [vcT, hd]
theorem vcD_ok {ops : Array Oper} {dl : Cls} {ov : List (Tmp × Cls)} {K : Env → List As → Prop} : ∀ {l : List Oper} {e : Env} {S A : List As}, vcD Γ ops dl ov l e S A K → LW P n ops dl ov (fun e M => ∃ N, N.Perm M ∧ K e N) l e S A := by
  intro l
  induction l with
  | nil => intro e S A h; exact .nil ⟨_, List.Perm.refl _, h⟩
  | cons o rest ih =>
    intro e S A h
    rw [vcD_cons] at h
    split at h
    · rename_i hg
      exact stepD_ok (wants_none hg) (fun v S' A' h => ih h) h
    · split at h
      · exact h.elim
      · rename_i b hw
        obtain ⟨h⟩ := h
        cases b with
        | true => exact stepD_ok hw (fun v S' A' h => ih h) h
        | false => exact .val undef (.inl ⟨hw, rfl⟩) (ih h)

theorem vcT_ok {ops : Array Oper} {ov : List (Tmp × Cls)} {K : Env → List As → Prop} {F : List As} {w0 : World} {Qx : Exit → Act → World → Prop}
    (hend : ∀ e M a' w', K e M → EnvOk a' n e → Sat w' (M ++ F) → Nx w0 w' → Qx .normal a' w') :
    ∀ {l : List Oper} {e : Env} {M : List As} {a : Act} {w : World}, (∀ o ∈ l, dstOk n o = true) → vcT Γ ops ov l e M K → EnvOk a n e → Sat w (M ++ F) → Nx w0 w → wpList P ops Qx l a w := by
  intro l
  induction l with
  | nil => intro e M a w hd h ha hs hn; exact hend _ _ _ _ h ha hs hn
  | cons o rest ih =>
    intro e M a w hd h ha hs hn
    have hd0 := hd o (List.mem_cons_self ..)
    have hd1 : ∀ o ∈ rest, dstOk n o = true := fun o ho => hd o (List.mem_cons_of_mem _ ho)
    have go : wants ops e o = some true → stepT Γ ov o e M (fun v M' => vcT Γ ops ov rest (e.upd o.dst v) M' K) → wpList P ops Qx (o :: rest) a w := fun hw h => by
      obtain ⟨R, hr, hk⟩ := stepT_ok (n := n) (ops := ops) h
      unfold wpList
      rw [if_pos (wants_sound ha hw)]
      refine .inl ((hr F a w ha hs).wp ?_)
      rintro v w' ⟨M', hx, hs', hn'⟩
      exact ih hd1 (hk v M' hx) (ha.put hd0 v) hs' (hn.trans hn')
    rw [vcT_cons] at h
    split at h
    · rename_i hg
      exact go (wants_none hg) h
    · split at h
      · exact h.elim
      · rename_i b hw
        obtain ⟨h⟩ := h
        cases b with
        | true => exact go hw h
        | false =>
          unfold wpList
          rw [if_neg (by rw [wants_sound ha hw]; simp)]
          exact ih hd1 h (ha.put hd0 _) hs hn

theorem CW.mono {c : Code} {e : Env} {M : List As} {Q Q' : Exit → Env → List As → Prop} (h : CW P n c e M Q) (hq : ∀ x e M, Q x e M → Q' x e M) : CW P n c e M Q' := fun F a w ha hs =>
  wp_mono (h F a w ha hs) (fun x a' w' ⟨e', M', h1, h2⟩ => ⟨e', M', hq _ _ _ h1, h2⟩)

theorem cvc_ok : ∀ {c : Code} {e : Env} {M : List As} {Q : Exit → Env → List As → Prop}, cvc Γ n c e M Q → CW P n c e M Q := by
  intro c
  induction c with
  | skip => exact fun h F a w ha hs => wp_skip ⟨_, _, h, ha, hs, Nx.refl _⟩
  | region id ops draw =>
    intro e M Q h F a w ha hs
    unfold cvc at h
    split at h
    · rcases h.ex with ⟨dl, ov, S, A, hchk, hent, h⟩ | h
      rotate_left
      · have e1 : ops.toList.toArray = ops := Array.toArray_toList
        have h2 := h id F a w ha hs
        rw [e1] at h2
        refine wp_mono h2 ?_
        rintro x a' w' ⟨e', M', ⟨rfl, hk⟩, h3, h4, h5⟩
        exact ⟨e', M', hk, h3, h4, h5⟩
      have hs' : Sat w (S ++ A ++ F) := hs.ent (Ent.app hent (Ent.refl F))
      have hl := vcD_ok (n := n) h
      refine wp_region_any Γ.mixed ?_
      have e1 : ops.toList.toArray = ops := Array.toArray_toList
      have hz : ops.size = ops.toList.length := (Array.length_toList).symm
      rw [← e1]
      have hleft : left ops.toList.length (Array.replicate ops.toList.length false) = List.range ops.toList.length := by
        unfold left
        refine List.filter_eq_self.2 (fun i hi => ?_)
        rw [List.mem_range] at hi
        have hi' : i < ops.size := by simpa using hi
        simp [Array.getElem?_replicate, hi']
      refine region_any (Q := fun e M => ∃ N, N.Perm M ∧ Q .normal e N) (w0 := w) (F := F) hchk ?_ ?_ _ _ e S A a _ ?_ ?_ ?_ ?_ ha (hs'.same rfl) ⟨rfl, rfl, rfl, Nat.le_refl _⟩
      · rintro e M N p ⟨M', hp, hk⟩
        exact ⟨M', hp.trans p, hk⟩
      · rintro e' M' a' w' ⟨N, hp, hk⟩ ha' hs' hn'
        exact ⟨e', N, hk, ha', hs'.ent (Ent.perm (hp.symm.append_right F)), hn'⟩
      · simp
      · intro i o hi hl
        have : i < ops.toList.length := (List.getElem?_eq_some_iff.1 hi).1
        simp at this
        simp [this] at hl
      · simp only [List.size_toArray]; rw [hleft]; simp
      · simp only [List.size_toArray]; rw [hleft]
        have hm : (List.range ops.toList.length).map (fun i => ops.toList.getD i default) = ops.toList := by
          refine List.ext_getElem? (fun i => ?_)
          rw [List.getElem?_map]
          by_cases hi : i < ops.toList.length
          · rw [List.getElem?_range hi]
            show some (ops.toList.getD i default) = _
            rw [List.getD_eq_getElem?_getD, List.getElem?_eq_getElem hi]; rfl
          · rw [List.getElem?_eq_none (by simpa using hi), List.getElem?_eq_none (by omega)]; rfl
        rw [hm]
        exact hl
    · obtain ⟨ov, hd, h⟩ := h.ex
      refine wp_region_list ?_
      have e1 : ops.toList.toArray = ops := Array.toArray_toList
      rw [e1] at h
      refine vcT_ok (w0 := w) (F := F) ?_ (List.all_eq_true.1 hd) h ha hs (Nx.refl _)
      intro e' M' a' w' hk ha' hs' hn'
      exact ⟨e', M', hk, ha', hs', hn'⟩
  | seq x y ihx ihy =>
    intro e M Q h F a w ha hs
    unfold cvc at h
    refine wp_seq (wp_mono (ihx h F a w ha hs) ?_)
    rintro x a' w' ⟨e', M', hq, ha', hs', hn'⟩
    cases x with
    | normal =>
      refine wp_mono (hq.h F a' w' ha' hs') ?_
      rintro x a2 w2 ⟨e2, M2, hq2, ha2, hs2, hn2⟩
      exact ⟨e2, M2, hq2, ha2, hs2, hn'.trans hn2⟩
    | exit i => exact ⟨e', M', hq, ha', hs', hn'⟩
    | goto i => exact ⟨e', M', hq, ha', hs', hn'⟩
    | ret => exact ⟨e', M', hq, ha', hs', hn'⟩
    | panic i => exact ⟨e', M', hq, ha', hs', hn'⟩
    | outgrown => exact ⟨e', M', hq, ha', hs', hn'⟩
  | cond c x y ihx ihy =>
    intro e M Q h F a w ha hs
    unfold cvc at h
    split at h
    · rename_i t hc
      exact wp_cond_split (ev_eval ha hc) (fun ht => ihx (h.t ht) F a w ha hs) (fun hf => ihy (h.f hf) F a w ha hs)
    · exact h.elim
  | block id c ih =>
    intro e M Q h F a w ha hs
    unfold cvc at h
    refine wp_block (wp_mono (ih h F a w ha hs) ?_)
    rintro x a' w' ⟨e', M', hq, ha', hs', hn'⟩
    cases x with
    | exit i =>
      simp only at hq
      simp only [Exit.inBlock]
      split at hq
      · rename_i hb
        rw [if_pos (Nat.eq_of_beq_eq_true hb)]
        exact ⟨e', M', hq, ha', hs', hn'⟩
      · rename_i hb
        rw [if_neg (fun he => by rw [he, Nat.beq_refl] at hb; cases hb)]
        exact ⟨e', M', hq, ha', hs', hn'⟩
    | normal => exact ⟨e', M', hq, ha', hs', hn'⟩
    | goto i => exact ⟨e', M', hq, ha', hs', hn'⟩
    | ret => exact ⟨e', M', hq, ha', hs', hn'⟩
    | panic i => exact ⟨e', M', hq, ha', hs', hn'⟩
    | outgrown => exact ⟨e', M', hq, ha', hs', hn'⟩
  | loop c ih => exact fun h => h.h
  | exit id => exact fun h F a w ha hs => wp_exit ⟨_, _, h, ha, hs, Nx.refl _⟩
  | ret => exact fun h F a w ha hs => wp_ret ⟨_, _, h, ha, hs, Nx.refl _⟩
  | label l => exact fun h F a w ha hs => wp_label ⟨_, _, h, ha, hs, Nx.refl _⟩
  | rangeFunc f ps asg body => exact fun h => h.elim
  | scope c => exact fun h => h.elim
  | goto l => exact fun h => h.elim
  | refuse s => exact fun h => h.elim

theorem LNext.go (Γ : Tab P) {c : Code} {e : Env} {M : List As} {Q : Exit → Env → List As → Prop} (h : cvc Γ n c e M Q) : LNext P n c e M Q := ⟨cvc_ok h⟩
theorem LNext.keep {c : Code} {e : Env} {M : List As} {Q : Exit → Env → List As → Prop} (ρ : List (Nat × Value)) (hs : Sub ρ e) (h : LNext P n c (look ρ) M Q) : LNext P n c e M Q :=
  ⟨fun F a w ha hsat => h.h F a w (ha.sub hs) hsat⟩
theorem LNext.ent {c : Code} {e : Env} {M N : List As} {Q : Exit → Env → List As → Prop} (hM : Ent M N) (h : LNext P n c e N Q) : LNext P n c e M Q :=
  ⟨fun F a w ha hsat => h.h F a w ha (hsat.ent (Ent.app hM (Ent.refl F)))⟩
theorem LNext.ex {α : Type} {c : Code} {e : Env} {M : List As} {N : α → List As} {p : α → Prop} {Q : Exit → Env → List As → Prop} (hM : ∀ h, Stars M h → ∃ x, p x ∧ Stars (N x) h) (h : ∀ x, p x → LNext P n c e (N x) Q) : LNext P n c e M Q :=
  ⟨fun F a w ha hsat => by
    obtain ⟨h1, h2, d, l1, l2, s1, s2⟩ := Stars.app.1 hsat
    obtain ⟨x, hp, sx⟩ := hM h1 s1
    exact (h x hp).h F a w ha (Stars.app.2 ⟨h1, h2, d, l1, l2, sx, s2⟩)⟩
theorem LNext.pure {c : Code} {e : Env} {M : List As} {p : Prop} {Q : Exit → Env → List As → Prop} (hM : ∀ h, Stars M h → p) (h : p → LNext P n c e M Q) : LNext P n c e M Q :=
  ⟨fun F a w ha hsat => (h (hM _ (hsat.ent Ent.dropr))).h F a w ha hsat⟩
theorem LDraw.all {l : List Oper} {e : Env} {M : List As} {K : Env → List As → Prop} (hc : regionChk n .T [] l = true) (h : vcD Γ l.toArray .T [] l e M [] K) : LDraw Γ n l e M K :=
  ⟨.inl ⟨.T, [], M, [], hc, by rw [List.append_nil]; exact Ent.refl _, h⟩⟩
theorem LDraw.own {l : List Oper} {e : Env} {M : List As} {K : Env → List As → Prop} (hc : regionChk n .R [] l = true) (h : vcD Γ l.toArray .R [] l e [] M K) : LDraw Γ n l e M K :=
  ⟨.inl ⟨.R, [], [], M, hc, Ent.refl _, h⟩⟩
theorem LText.all {l : List Oper} {e : Env} {M : List As} {K : Env → List As → Prop} (hd : l.all (dstOk n) = true) (h : vcT Γ l.toArray [] l e M K) : LText Γ n l e M K := ⟨[], hd, h⟩

/-! A loop: a family of states, and a number that falls. -/
structure LAgain {α : Type} (ρ : α → List (Nat × Value)) (L : α → List As) (p : α → Prop) (μ : α → Nat) (x : α) (e : Env) (M : List As) : Prop where
  ex : ∃ x', p x' ∧ μ x' < μ x ∧ Sub (ρ x') e ∧ Ent M (L x')
theorem LLoop.inv {α : Type} (ρ : α → List (Nat × Value)) (L : α → List As) (p : α → Prop) (μ : α → Nat) {c : Code} {e : Env} {M : List As} {Q : Exit → Env → List As → Prop} (x0 : α) (h0 : p x0) (he : Sub (ρ x0) e) (hM : Ent M (L x0))
    (h : ∀ x, p x → cvc Γ n c (look (ρ x)) (L x) (fun ex e' M' => match ex with | .normal => LAgain ρ L p μ x e' M' | ex => Q ex e' M')) : LLoop P n c e M Q := by
  refine ⟨fun F a w ha hs => ?_⟩
  refine wp_loop_ghost (fun k a w' => ∃ x, p x ∧ μ x = k ∧ EnvOk a n (look (ρ x)) ∧ Sat w' (L x ++ F) ∧ Nx w w') (μ x0)
    ⟨x0, h0, rfl, ha.sub he, hs.ent (Ent.app hM (Ent.refl F)), Nx.refl _⟩ ?_
  rintro k a' w' ⟨x, hx, rfl, ha', hs', hn'⟩
  refine wp_mono (cvc_ok (h x hx) F a' w' ha' hs') ?_
  rintro ex a2 w2 ⟨e2, M2, hq, ha2, hs2, hn2⟩
  cases ex with
  | normal =>
    obtain ⟨x', hx', hlt, hsub, hent⟩ := hq.ex
    exact ⟨μ x', hlt, x', hx', rfl, ha2.sub hsub, hs2.ent (Ent.app hent (Ent.refl F)), hn'.trans hn2⟩
  | exit id => exact ⟨e2, M2, hq, ha2, hs2, hn'.trans hn2⟩
  | goto l => exact ⟨e2, M2, hq, ha2, hs2, hn'.trans hn2⟩
  | ret => exact ⟨e2, M2, hq, ha2, hs2, hn'.trans hn2⟩
  | panic ch => exact ⟨e2, M2, hq, ha2, hs2, hn'.trans hn2⟩
  | outgrown => exact ⟨e2, M2, hq, ha2, hs2, hn'.trans hn2⟩

/-- Fewer slots may be known, and other assertions. -/
theorem cvc_keep' {c : Code} {e : Env} {M N : List As} {Q : Exit → Env → List As → Prop} (ρ : List (Nat × Value)) (hs : Sub ρ e) (hM : Ent M N) (h : CW P n c (look ρ) N Q) : CW P n c e M Q :=
  fun F a w ha hsat => h F a w (ha.sub hs) (hsat.ent (Ent.app hM (Ent.refl F)))

/-! What a function hands back. -/
def resV (P : Program) : List ResultVar → Env → List As → (List Value → Prop) → Prop
  | [], _, _, k => k []
  | .tmp t :: r, e, M, k => onSome (e t) (fun v => resV P r e M (fun vs => k (v :: vs)))
  | .cell t ty :: r, e, M, k => onSome (e t) (fun p => LGet P (Instr.loadAt ty p) M (fun v => resV P r e M (fun vs => k (v :: vs))))
def tupled : List Value → Value
  | [v] => v
  | vs => .tuple vs.toArray
def resOf (tmps : Array Value) : ResultVar → Sem Value
  | .tmp t => pure (tmps.getD t undef)
  | .cell x t => do loadVar t (← asAddr (tmps.getD x undef))
theorem resOf_tmp {tmps : Array Value} {t : Tmp} {v : Value} (h : tmps[t]? = some v) (w : World) : (resOf tmps (.tmp t)).run P w = .ok v w := by simp [resOf, h]
theorem resOf_cell {tmps : Array Value} {t : Tmp} {ty : TypeId} {ad : Addr} {v : Value} {w : World} (h : tmps[t]? = some (.pointer (some ad))) (hl : (loadVar ty ad).run P w = .ok v w) : (resOf tmps (.cell t ty)).run P w = .ok v w := by simp [resOf, h, asAddr, hl]
theorem resV_ok {rs : List ResultVar} : ∀ {e : Env} {M : List As} {k : List Value → Prop}, resV P rs e M k → ∃ vs, k vs ∧ ∀ a w, EnvOk a n e → Sat w M →
    (rs.mapM (resOf a.tmps)).run P w = .ok vs w := by
  induction rs with
  | nil => intro e M k h; exact ⟨[], h, fun a w ha hs => by simp⟩
  | cons r rs ih =>
    intro e M k h
    cases r with
    | tmp t =>
      obtain ⟨v, hv, h⟩ := onSome_ok h
      obtain ⟨vs, hk, hr⟩ := ih h
      refine ⟨v :: vs, hk, fun a w ha hs => ?_⟩
      simp [List.mapM_cons, resOf_tmp (P := P) (ha.get t v hv), hr a w ha hs]
    | cell t ty =>
      obtain ⟨p, hp, h⟩ := onSome_ok h
      obtain ⟨v, hv, h⟩ := h.ex
      obtain ⟨vs, hk, hr⟩ := ih h
      refine ⟨v :: vs, hk, fun a w ha hs => ?_⟩
      have h1 := ha.get t p hp
      have h2 := hv w hs
      cases p <;> simp [Instr.loadAt, Instr.sureAddr] at h2
      rename_i ad
      cases ad with
      | none => simp [Instr.loadAt, Instr.sureAddr] at h2
      | some ad =>
        simp at h2
        simp [List.mapM_cons, resOf_cell (P := P) h1 h2, hr a w ha hs]

def args (vs : List Value) (k : Nat := 0) : List (Nat × Value) := match vs with
  | [] => []
  | v :: r => (k, v) :: args r (k + 1)
theorem args_look : ∀ (vs : List Value) (k t : Nat) (v : Value), look (args vs k) t = some v → k ≤ t ∧ vs[t - k]? = some v
  | [], k, t, v, h => by cases h
  | u :: r, k, t, v, h => by
    simp only [args, look] at h
    split at h
    · rename_i hb
      have := Nat.eq_of_beq_eq_true hb
      subst this
      cases h
      simp
    · have ⟨h1, h2⟩ := args_look r (k + 1) t v h
      refine ⟨by omega, ?_⟩
      have : t - k = t - (k + 1) + 1 := by omega
      rw [this]; simpa using h2

structure FnOk (P : Program) (f : FuncId) (n : Nat) (rs : List ResultVar) (c : Code) : Prop where
  ex : ∃ fn, P.funcs[f]? = some fn ∧ fn.body = some c ∧ fn.ntmps = n ∧ fn.results.toList = rs ∧ CallOk P f
def resK (P : Program) (rs : List ResultVar) (e : Env) (M : List As) (k : Value → Prop) : Prop :=
  match rs with
  | [] => k (.tuple #[])
  | [.tmp t] => onSome (e t) k
  | rs => resV P rs e M (fun vs => k (tupled vs))
theorem resK_ok {rs : List ResultVar} {e : Env} {M : List As} {k : Value → Prop} (h : resK P rs e M k) : resV P rs e M (fun vs => k (tupled vs)) := by
  unfold resK at h
  split at h
  · exact h
  · exact h
  · exact h
structure LRes (P : Program) (rs : List ResultVar) (e : Env) (M : List As) (k : Value → Prop) : Prop where
  h : resK P rs e M k
/-- What the contract says, of a part of what there is. -/
structure Fin (R : Value → List As → Prop) (M : List As) (v : Value) : Prop where
  ex : ∃ N, Ent M N ∧ R v N
theorem Fin.all {R : Value → List As → Prop} {M : List As} {v : Value} (h : R v M) : Fin R M v := ⟨M, Ent.refl _, h⟩
theorem Fin.of {R : Value → List As → Prop} {M : List As} {v : Value} (N : List As) (hN : Ent M N) (h : R v N) : Fin R M v := ⟨N, hN, h⟩
theorem ctr_of {f : FuncId} {c : Code} {rs : List ResultVar} {vs : List Value} {M : List As} {R : Value → List As → Prop} (hf : FnOk P f n rs c) (hl : Nat.ble vs.length n = true)
    (h : cvc Γ n c (look (args vs)) M (fun x e' M' => match x with
      | .normal => LRes P rs e' M' (Fin R M')
      | .ret => LRes P rs e' M' (Fin R M')
      | _ => False)) : Ctr P f vs.toArray M R := by
  obtain ⟨fn, h1, h2, h3, h4, h5⟩ := hf.ex
  have hle : vs.length ≤ n := Nat.le_of_ble_eq_true hl
  refine ⟨h5, fun F w hs => calls_of_wp h1 h2 ?_⟩
  have hok : EnvOk { tmps := vs.toArray ++ Array.replicate (fn.ntmps - vs.toArray.size) undef, defers := [] } n (look (args vs)) := by
    refine ⟨rfl, ?_, ?_⟩
    · simp [h3]; omega
    · intro t v ht
      have ⟨_, h6⟩ := args_look vs 0 t v ht
      simp only [Nat.sub_zero] at h6
      have hlt := (List.getElem?_eq_some_iff.1 h6).1
      rw [Array.getElem?_append_left (by simpa using hlt)]
      simpa using h6
  refine wp_mono (cvc_ok h F _ w hok hs) ?_
  have fin : ∀ (a' : Act) (w' : World) (e' : Env) (M' : List As), LRes P rs e' M' (Fin R M') → EnvOk a' n e' → Sat w' (M' ++ F) → Nx w w' →
      a'.defers = [] ∧ ∃ v, (results fn a'.tmps).run P w' = .ok v w' ∧ (∃ v' M', Ending.returned v = .returned v' ∧ R v' M' ∧ Sat w' (M' ++ F) ∧ Nx w w') := by
    intro a' w' e' M' hr ha' hs' hn'
    obtain ⟨us, ⟨⟨N, hN, hk⟩⟩, hrun⟩ := resV_ok (n := n) (resK_ok hr.h)
    refine ⟨ha'.defers, tupled us, ?_, _, _, rfl, hk, hs'.ent (Ent.app hN (Ent.refl F)), hn'⟩
    have hm := hrun a' w' ha' (hs'.ent Ent.dropr)
    have hres : results fn a'.tmps = (do let vs ← fn.results.mapM (resOf a'.tmps); pure (if h : vs.size = 1 then vs[0] else .tuple vs)) := by
      unfold results
      congr 1
    rw [hres, Array.mapM_eq_mapM_toList, h4]
    simp [hm]
    match us with
    | [] => rfl
    | [v] => rfl
    | u :: v :: r => simp [tupled]
  rintro ex a' w' ⟨e', M', hq, ha', hs', hn'⟩
  cases ex with
  | normal => exact fin a' w' e' M' hq ha' hs' hn'
  | ret => exact fin a' w' e' M' hq ha' hs' hn'
  | exit id => exact hq.elim
  | goto l => exact hq.elim
  | panic ch => exact hq.elim
  | outgrown => exact hq.elim
end
end Go.Sl
