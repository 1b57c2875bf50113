import Derived.Test.YtchaijafpmofdaaSlA
/-! A region whose order is open: walked in the order of the text. -/
namespace Go.Sl
set_option linter.unusedVariables false
set_option linter.unusedSimpArgs false

inductive Cls where
  | P | T | R | L | H | D | C | E
  deriving DecidableEq

def clsOp (dl : Cls) : Op → Cls
  | .load .. | .lookup .. => dl
  | .alloc _ | .box .. | .buildSlice .. | .makeSlice .. | .makeMap .. => .L
  | .call { callee := .builtin b, .. } => match b with
    | .len | .cap | .min | .max => .P
    | _ => .D
  | .call _ => .H
  | .store .. | .mapUpdate .. | .insert .. | .mapEntry .. | .entryStore .. | .range .. | .next .. | .entry .. | .ready _ | .waits _ | .go _ | .defer _ | .panic _ | .send .. | .recv .. | .select .. | .makeChan .. => .D
  | _ => .P
def clsOf (dl : Cls) (ov : List (Tmp × Cls)) (o : Oper) : Cls :=
  match o.dst with
  | none => clsOp dl o.op
  | some d => match ov.find? (fun x => Nat.beq x.1 d) with
    | some x => x.2
    | none => clsOp dl o.op

/-- May the second be taken ahead of the first? -/
def mayPass : Cls → Cls → Bool
  | _, .P | _, .L => true
  | .D, .T => false
  | .E, .T => false
  | _, .T => true
  | .P, .R | .T, .R | .R, .R => true
  | .P, .H | .T, .H => true
  | .P, .D => true
  | .P, .E => true
  | .P, .C | .T, .C => true
  | _, _ => false

def UponOk (P : Program) (r : Result Next) (post : Value → World → Prop) : Prop :=
  match r with
  | .ok (.value v) w' => post v w'
  | .ok .skip w' => post undef w'
  | .ok (.enter f args) w' => Calls P f args w' (fun e w'' => ∃ v, e = .returned v ∧ post v w'')
  | .ok (.row row args) w' => Rows P row args w' post
  | _ => False
theorem UponOk.mono {P : Program} {r : Result Next} {p q : Value → World → Prop} (h : UponOk P r p) (k : ∀ v w, p v w → q v w) : UponOk P r q := by
  cases r with
  | ok n w =>
    cases n <;> simp only [UponOk] at h ⊢ <;> first
      | exact k _ _ h
      | exact h.mono (fun e w' ⟨v, he, hp⟩ => ⟨v, he, k _ _ hp⟩)
      | exact h.mono (fun v w' hp => k _ _ hp)
      | exact h
  | halt x w => exact h
theorem UponOk.wp {P : Program} {o : Oper} {a : Act} {w : World} {p : Value → World → Prop} {next : Act → World → Prop} {Q : Exit → Act → World → Prop}
    (h : UponOk P ((execOp a.eval o).run P w) p) (k : ∀ v w', p v w' → next (a.put o.dst v) w') : o.wp P a w next Q := by
  unfold Oper.wp
  generalize (execOp a.eval o).run P w = r at h
  cases r with
  | ok n w =>
    cases n <;> simp only [UponOk] at h <;> simp only [Oper.upon] <;> first
      | exact k _ _ h
      | exact h.elim
      | exact h.mono (fun e w' ⟨v, he, hp⟩ => by subst he; exact k _ _ hp)
      | exact h.mono (fun v w' hp => k _ _ hp)
  | halt x w => exact h.elim
/-- It comes to an end. -/
theorem UponOk.ex {P : Program} {r : Result Next} {p : Value → World → Prop} (h : UponOk P r p) : ∃ v w, p v w := by
  cases r with
  | ok n w =>
    cases n <;> simp only [UponOk] at h <;> first
      | exact ⟨_, _, h⟩
      | exact h.elim
      | (obtain ⟨e, w', fr, ⟨v, _, hp⟩, _⟩ := h []; exact ⟨v, w', hp⟩)
      | (obtain ⟨v, w', hp, _⟩ := h default []; exact ⟨v, w', hp⟩)
  | halt x w => exact h.elim

section
variable (P : Program) (n : Nat)
def PureAt (o : Oper) (e : Env) (v : Value) : Prop := ∀ a w, EnvOk a n e → (execOp a.eval o).run P w = .ok (.value v) w
def GetAt (o : Oper) (e : Env) (M : List As) (v : Value) : Prop := ∀ a w, EnvOk a n e → Sat w M → (execOp a.eval o).run P w = .ok (.value v) w
def NewAt (o : Oper) (e : Env) (mk : Nat → Value) (obj : Obj) : Prop := ∀ a w, EnvOk a n e → (execOp a.eval o).run P w = .ok (.value (mk w.heap.size)) (w.alloc obj)
def RunAt (o : Oper) (e : Env) (M : List As) (R : Value → List As → Prop) : Prop :=
  ∀ F a w, EnvOk a n e → Sat w (M ++ F) → UponOk P ((execOp a.eval o).run P w) (fun v w' => ∃ M', R v M' ∧ Sat w' (M' ++ F) ∧ Nx w w')
variable (ops : Array Oper) (dl : Cls) (ov : List (Tmp × Cls))
def VStep (o : Oper) (e : Env) (S A : List As) (v : Value) : Prop :=
  (wants ops e o = some false ∧ v = undef) ∨ (wants ops e o = some true ∧ clsOf dl ov o = .P ∧ PureAt P n o e v) ∨
  (wants ops e o = some true ∧ clsOf dl ov o = .T ∧ GetAt P n o e S v) ∨ (wants ops e o = some true ∧ clsOf dl ov o = .R ∧ GetAt P n o e A v)

/-- Some world and some frame are so. -/
def Wit (e : Env) (M : List As) : Prop := (∃ a, EnvOk a n e) ∧ ∃ w, Sat w M
inductive LW (Q : Env → List As → Prop) : List Oper → Env → List As → List As → Prop where
  | nil {e : Env} {S A : List As} (h : Q e (S ++ A)) : LW Q [] e S A
  | val {o : Oper} {rest : List Oper} {e : Env} {S A : List As} (v : Value) (hv : VStep P n ops dl ov o e S A v) (h : LW Q rest (e.upd o.dst v) S A) : LW Q (o :: rest) e S A
  | new {o : Oper} {rest : List Oper} {e : Env} {S A : List As} (mk : Nat → Value) (obj : Obj) (hw : wants ops e o = some true) (hc : clsOf dl ov o = .L) (hn : NewAt P n o e mk obj)
      (h : ∀ b, Wit n (e.upd o.dst (mk b)) (S ++ pt b obj :: A) → LW Q rest (e.upd o.dst (mk b)) S (pt b obj :: A)) : LW Q (o :: rest) e S A
  | ext {o : Oper} {rest : List Oper} {e : Env} {S A : List As} (R : Value → List As → Prop) (hw : wants ops e o = some true) (hc : clsOf dl ov o = .H)
      (hr : RunAt P n o e (S ++ A) (fun v M' => ∃ X, R v X ∧ M' = X ++ (S ++ A))) (h : ∀ v X, R v X → Wit n (e.upd o.dst v) (S ++ (X ++ A)) → LW Q rest (e.upd o.dst v) S (X ++ A)) : LW Q (o :: rest) e S A
  | run {o : Oper} {rest : List Oper} {e : Env} {S A : List As} (R : Value → List As → Prop) (hw : wants ops e o = some true) (hc : clsOf dl ov o = .D)
      (hr : RunAt P n o e (S ++ A) R) (h : ∀ v M', R v M' → Wit n (e.upd o.dst v) M' → LW Q rest (e.upd o.dst v) [] M') : LW Q (o :: rest) e S A
  | cal {o : Oper} {rest : List Oper} {e : Env} {S A : List As} (R : Value → List As → Prop) (hw : wants ops e o = some true) (hc : clsOf dl ov o = .C)
      (hr : RunAt P n o e A R) (h : ∀ v M', R v M' → Wit n (e.upd o.dst v) (S ++ M') → LW Q rest (e.upd o.dst v) S M') : LW Q (o :: rest) e S A
  | rune {o : Oper} {rest : List Oper} {e : Env} {S A : List As} (R : Value → List As → List As → Prop) (hw : wants ops e o = some true) (hc : clsOf dl ov o = .E)
      (hr : RunAt P n o e (S ++ A) (fun v M' => ∃ S1 A1, R v S1 A1 ∧ M' = S1 ++ A1)) (h : ∀ v S1 A1, R v S1 A1 → Wit n (e.upd o.dst v) (S1 ++ A1) → LW Q rest (e.upd o.dst v) S1 A1) : LW Q (o :: rest) e S A
end

section
variable {P : Program} {n : Nat} {ops : Array Oper} {dl : Cls} {ov : List (Tmp × Cls)} {Q : Env → List As → Prop}

theorem wants_sound {a : Act} {e : Env} {o : Oper} {b : Bool} (h : EnvOk a n e) (hw : wants ops e o = some b) : Region.wanted o (yielded ops a.tmps) = b := by
  unfold wants at hw
  unfold Region.wanted
  cases hg : o.guard with
  | none => simp [hg] at hw; simp [hw]
  | some gw =>
    obtain ⟨j, want⟩ := gw
    simp only [hg] at hw
    simp only [yielded]
    cases ht : (ops[j]?).bind (·.dst) with
    | none => simp [ht] at hw; simp [hw]
    | some t =>
      simp only [ht] at hw
      cases hv : e t with
      | none => simp [hv] at hw
      | some v =>
        have hg2 := h.get t v hv
        simp only [hv] at hw
        simp only [Option.bind_some, hg2]
        cases v <;> simp at hw ⊢ <;> simp [← hw]

/-- 'y' neither looks at what 'x' writes nor writes what 'x' looks at or writes. -/
structure Apart (ops : Array Oper) (n : Nat) (x y : Oper) : Prop where
  xy : ∀ d, x.dst = some d → d ∉ y.looksAt ops
  yx : ∀ d, y.dst = some d → d ∉ x.looksAt ops
  dd : ∀ d, x.dst = some d → y.dst ≠ some d
  xn : dstOk n x = true
  yn : dstOk n y = true
  sx : ∀ cs b, x.op ≠ .select cs b
  sy : ∀ cs b, y.op ≠ .select cs b
theorem Apart.symm {x y : Oper} (h : Apart ops n x y) : Apart ops n y x := ⟨h.yx, h.xy, fun d hy hx => h.dd d hx hy, h.yn, h.xn, h.sy, h.sx⟩

theorem looks_guard {o : Oper} {j : Nat} {want : Bool} {t : Tmp} (hg : o.guard = some (j, want)) (ht : (ops[j]?).bind (·.dst) = some t) : t ∈ o.looksAt ops := by
  unfold Oper.looksAt
  rw [hg]
  exact List.mem_append_right _ (by simp [ht])

theorem wants_upd {x y : Oper} (h : Apart ops n x y) (e : Env) (v : Value) : wants ops (e.upd x.dst v) y = wants ops e y := by
  unfold wants
  cases hg : y.guard with
  | none => rfl
  | some gw =>
    obtain ⟨j, want⟩ := gw
    simp only
    cases ht : (ops[j]?).bind (·.dst) with
    | none => rfl
    | some t =>
      simp only
      have hin := looks_guard hg ht
      have : (e.upd x.dst v) t = e t := by
        cases hd : x.dst with
        | none => rfl
        | some d =>
          have hne : t ≠ d := fun he => h.xy d hd (he ▸ hin)
          simp only [Env.upd]
          cases hb : Nat.beq t d with
          | false => rfl
          | true => exact absurd (Nat.eq_of_beq_eq_true hb) hne
      rw [this]

theorem exec_put {x y : Oper} (h : Apart ops n x y) (a : Act) (v : Value) : execOp (a.put x.dst v).eval y = execOp a.eval y :=
  execOp_put y h.sy a x.dst v h.xy

theorem PureAt.up {x y : Oper} (h : Apart ops n x y) {e : Env} {u v : Value} (p : PureAt P n y (e.upd x.dst u) v) : PureAt P n y e v := fun a w ha => by
  rw [← exec_put h a u]; exact p _ _ (ha.put h.xn u)
theorem GetAt.up {x y : Oper} (h : Apart ops n x y) {e : Env} {M : List As} {u v : Value} (p : GetAt P n y (e.upd x.dst u) M v) : GetAt P n y e M v := fun a w ha hs => by
  rw [← exec_put h a u]; exact p _ _ (ha.put h.xn u) hs
theorem NewAt.up {x y : Oper} (h : Apart ops n x y) {e : Env} {u : Value} {mk : Nat → Value} {obj : Obj} (p : NewAt P n y (e.upd x.dst u) mk obj) : NewAt P n y e mk obj := fun a w ha => by
  rw [← exec_put h a u]; exact p _ _ (ha.put h.xn u)
theorem RunAt.up {x y : Oper} (h : Apart ops n x y) {e : Env} {u : Value} {M : List As} {R : Value → List As → Prop} (p : RunAt P n y (e.upd x.dst u) M R) : RunAt P n y e M R := fun F a w ha hs => by
  rw [← exec_put h a u]; exact p _ _ _ (ha.put h.xn u) hs
/- Down: what 'y' does at e it does where x's slot is written too: some frame of e is wanted. -/
theorem restore {x y : Oper} (h : Apart ops n x y) {e : Env} {u : Value} {a : Act} (ha : EnvOk a n (e.upd x.dst u)) (a0 : Act) (h0 : EnvOk a0 n e) :
    ∃ b, EnvOk b n e ∧ execOp b.eval y = execOp a.eval y := by
  cases hd : x.dst with
  | none => rw [hd] at ha; exact ⟨a, ha, rfl⟩
  | some d =>
    have hlt : d < n := by have := h.xn; simpa [dstOk, hd, Nat.blt_eq] using this
    cases hed : e d with
    | none =>
      refine ⟨a, ⟨ha.defers, ha.size, ?_⟩, rfl⟩
      intro t v ht
      refine ha.get t v ?_
      rw [hd]
      simp only [Env.upd]
      cases hb : Nat.beq t d with
      | false => exact ht
      | true => have := Nat.eq_of_beq_eq_true hb; subst this; rw [hed] at ht; cases ht
    | some v0 =>
      refine ⟨a.put x.dst v0, ?_, exec_put h a v0⟩
      refine ⟨by rw [hd]; exact ha.defers, by rw [hd]; simp [Act.put, ha.size], ?_⟩
      intro t v ht
      rw [hd]
      simp only [Act.put]
      by_cases htd : t = d
      · subst htd
        rw [hed] at ht; cases ht
        rw [Array.getElem?_setIfInBounds_self]
        simp [ha.size, hlt]
      · rw [Array.getElem?_setIfInBounds_ne (Ne.symm htd)]
        refine ha.get t v ?_
        rw [hd]
        simp only [Env.upd]
        cases hb : Nat.beq t d with
        | false => exact ht
        | true => exact absurd (Nat.eq_of_beq_eq_true hb) htd
theorem PureAt.down {x y : Oper} (h : Apart ops n x y) {e : Env} {u v : Value} {a0 : Act} (h0 : EnvOk a0 n e) (p : PureAt P n y e v) : PureAt P n y (e.upd x.dst u) v := fun a w ha => by
  obtain ⟨b, hb, he⟩ := restore h ha a0 h0; rw [← he]; exact p b w hb
theorem GetAt.down {x y : Oper} (h : Apart ops n x y) {e : Env} {M : List As} {u v : Value} {a0 : Act} (h0 : EnvOk a0 n e) (p : GetAt P n y e M v) : GetAt P n y (e.upd x.dst u) M v := fun a w ha hs => by
  obtain ⟨b, hb, he⟩ := restore h ha a0 h0; rw [← he]; exact p b w hb hs
theorem NewAt.down {x y : Oper} (h : Apart ops n x y) {e : Env} {u : Value} {mk : Nat → Value} {obj : Obj} {a0 : Act} (h0 : EnvOk a0 n e) (p : NewAt P n y e mk obj) : NewAt P n y (e.upd x.dst u) mk obj := fun a w ha => by
  obtain ⟨b, hb, he⟩ := restore h ha a0 h0; rw [← he]; exact p b w hb
theorem RunAt.down {x y : Oper} (h : Apart ops n x y) {e : Env} {u : Value} {M : List As} {R : Value → List As → Prop} {a0 : Act} (h0 : EnvOk a0 n e) (p : RunAt P n y e M R) : RunAt P n y (e.upd x.dst u) M R := fun F a w ha hs => by
  obtain ⟨b, hb, he⟩ := restore h ha a0 h0; rw [← he]; exact p F b w hb hs
theorem VStep.up {x y : Oper} (h : Apart ops n x y) {e : Env} {S A : List As} {u v : Value} (p : VStep P n ops dl ov y (e.upd x.dst u) S A v) : VStep P n ops dl ov y e S A v := by
  unfold VStep at *
  rw [wants_upd h] at p
  rcases p with p | ⟨a, b, c⟩ | ⟨a, b, c⟩ | ⟨a, b, c⟩
  · exact .inl p
  · exact .inr (.inl ⟨a, b, c.up h⟩)
  · exact .inr (.inr (.inl ⟨a, b, c.up h⟩))
  · exact .inr (.inr (.inr ⟨a, b, c.up h⟩))
theorem VStep.down {x y : Oper} (h : Apart ops n x y) {e : Env} {S A : List As} {u v : Value} {a0 : Act} (h0 : EnvOk a0 n e) (p : VStep P n ops dl ov y e S A v) : VStep P n ops dl ov y (e.upd x.dst u) S A v := by
  unfold VStep at *
  rw [wants_upd h]
  rcases p with p | ⟨a, b, c⟩ | ⟨a, b, c⟩ | ⟨a, b, c⟩
  · exact .inl p
  · exact .inr (.inl ⟨a, b, c.down h h0⟩)
  · exact .inr (.inr (.inl ⟨a, b, c.down h h0⟩))
  · exact .inr (.inr (.inr ⟨a, b, c.down h h0⟩))

theorem RunAt.perm {o : Oper} {e : Env} {M N : List As} {R R' : Value → List As → Prop} (p : RunAt P n o e M R) (hp : N.Perm M) (hr : ∀ v M', R v M' → ∃ N', R' v N' ∧ M'.Perm N') : RunAt P n o e N R' := fun F a w ha hs => by
  refine (p F a w ha (hs.ent (Ent.perm (hp.append_right F)))).mono ?_
  rintro v w' ⟨M', h1, h2, h3⟩
  obtain ⟨N', h4, h5⟩ := hr v M' h1
  exact ⟨N', h4, h2.ent (Ent.perm (h5.append_right F)), h3⟩
theorem RunAt.frame {o : Oper} {e : Env} {M : List As} {R : Value → List As → Prop} (p : RunAt P n o e M R) (X : List As) : RunAt P n o e (M ++ X) (fun v N => ∃ M', R v M' ∧ N = M' ++ X) := fun F a w ha hs => by
  refine (p (X ++ F) a w ha (hs.ent Ent.assoc)).mono ?_
  rintro v w' ⟨M', h1, h2, h3⟩
  exact ⟨_, ⟨M', h1, rfl⟩, h2.ent Ent.assoc', h3⟩

theorem VStep.perm {o : Oper} {e : Env} {S A B : List As} {v : Value} (p : VStep P n ops dl ov o e S A v) (hp : B.Perm A) : VStep P n ops dl ov o e S B v := by
  rcases p with p | p | p | ⟨a, b, c⟩
  · exact .inl p
  · exact .inr (.inl p)
  · exact .inr (.inr (.inl p))
  · exact .inr (.inr (.inr ⟨a, b, fun x w hx hs => c x w hx (hs.ent (Ent.perm hp))⟩))

theorem Wit.ent {e : Env} {M N : List As} (h : Wit n e M) (k : Ent M N) : Wit n e N := ⟨h.1, let ⟨w, hw⟩ := h.2; ⟨w, hw.ent k⟩⟩
theorem Wit.mk' {e : Env} {M : List As} {a : Act} {w : World} (ha : EnvOk a n e) (hs : Sat w M) : Wit n e M := ⟨⟨a, ha⟩, w, hs⟩
theorem LW.perm (hQ : ∀ e M N, M.Perm N → Q e M → Q e N) {l : List Oper} {e : Env} {S A : List As} (h : LW P n ops dl ov Q l e S A) : ∀ {B : List As}, B.Perm A → LW P n ops dl ov Q l e S B := by
  induction h with
  | nil h => exact fun hp => .nil (hQ _ _ _ (hp.symm.append_left _) h)
  | val v hv h ih => exact fun hp => .val v (hv.perm hp) (ih hp)
  | new mk obj hw hc hn h ih => exact fun hp => .new mk obj hw hc hn (fun b hwit => ih b (hwit.ent (Ent.perm ((hp.cons _).append_left _))) (hp.cons _))
  | ext R hw hc hr h ih =>
    intro B hp
    refine .ext R hw hc (hr.perm (hp.append_left _) ?_) (fun v X hx hwit => ih v X hx (hwit.ent (Ent.perm ((hp.append_left _).append_left _))) (hp.append_left _))
    rintro v M' ⟨X, hx, rfl⟩
    exact ⟨_, ⟨X, hx, rfl⟩, (hp.symm.append_left _).append_left _⟩
  | run R hw hc hr h ih =>
    intro B hp
    refine .run R hw hc (hr.perm (hp.append_left _) (fun v M' hm => ⟨M', hm, List.Perm.refl _⟩)) h
  | cal R hw hc hr h ih =>
    intro B hp
    exact .cal R hw hc (hr.perm hp (fun v M' hm => ⟨M', hm, List.Perm.refl _⟩)) h
  | rune R hw hc hr h ih =>
    intro B hp
    exact .rune R hw hc (hr.perm (hp.append_left _) (fun v M' hm => ⟨M', hm, List.Perm.refl _⟩)) h

/-- A step whose value hangs on nothing that the other may turn. -/
theorem VStep.det {o : Oper} {e : Env} {S A : List As} {u v : Value} {a : Act} {w : World} (ha : EnvOk a n e) (hs : Sat w (S ++ A)) (p : VStep P n ops dl ov o e S A u) (q : VStep P n ops dl ov o e S A v) : u = v := by
  have hS : Sat w S := hs.ent Ent.dropr
  have hA : Sat w A := hs.ent Ent.dropl
  rcases p with ⟨p1, p2⟩ | ⟨p1, p2, p3⟩ | ⟨p1, p2, p3⟩ | ⟨p1, p2, p3⟩ <;> rcases q with ⟨q1, q2⟩ | ⟨q1, q2, q3⟩ | ⟨q1, q2, q3⟩ | ⟨q1, q2, q3⟩ <;>
    first
      | (rw [p2, q2]; done)
      | (rw [p1] at q1; cases q1; done)
      | (rw [p2] at q2; cases q2; done)
      | (have e1 := p3 a w ha; have e2 := q3 a w ha; rw [e1] at e2; cases e2; rfl)
      | (have e1 := p3 a w ha hS; have e2 := q3 a w ha hS; rw [e1] at e2; cases e2; rfl)
      | (have e1 := p3 a w ha hA; have e2 := q3 a w ha hA; rw [e1] at e2; cases e2; rfl)
theorem VStep.anyA {o : Oper} {e : Env} {S A : List As} {v : Value} (p : VStep P n ops dl ov o e S A v) (hR : clsOf dl ov o ≠ .R) (B : List As) : VStep P n ops dl ov o e S B v := by
  rcases p with p | p | p | ⟨a, b, c⟩
  · exact .inl p
  · exact .inr (.inl p)
  · exact .inr (.inr (.inl p))
  · exact absurd b hR
theorem VStep.anyS {o : Oper} {e : Env} {S A : List As} {v : Value} (p : VStep P n ops dl ov o e S A v) (hR : clsOf dl ov o ≠ .R) (hT : clsOf dl ov o ≠ .T) (S' B : List As) : VStep P n ops dl ov o e S' B v := by
  rcases p with p | p | ⟨a, b, c⟩ | ⟨a, b, c⟩
  · exact .inl p
  · exact .inr (.inl p)
  · exact absurd b hT
  · exact absurd b hR
theorem VStep.weaken {o : Oper} {e : Env} {S A B : List As} {v : Value} (p : VStep P n ops dl ov o e S A v) (hB : Ent B A) : VStep P n ops dl ov o e S B v := by
  rcases p with p | p | p | ⟨a, b, c⟩
  · exact .inl p
  · exact .inr (.inl p)
  · exact .inr (.inr (.inl p))
  · exact .inr (.inr (.inr ⟨a, b, fun x w hx hs => c x w hx (hs.ent hB)⟩))
theorem VStep.det' {o : Oper} {e : Env} {S A B : List As} {u v : Value} {a : Act} {w : World} (ha : EnvOk a n e) (hs : Sat w S) (hR : clsOf dl ov o ≠ .R) (p : VStep P n ops dl ov o e S A u) (q : VStep P n ops dl ov o e S B v) : u = v :=
  VStep.det (A := []) ha (by simpa using hs) (p.anyA hR []) (q.anyA hR [])

theorem LW.inv_val {o : Oper} {rest : List Oper} {e : Env} {S A B : List As} {u : Value} {a : Act} {w : World} (ha : EnvOk a n e) (hs : Sat w S) (hR : clsOf dl ov o ≠ .R)
    (hu : VStep P n ops dl ov o e S B u) (h : LW P n ops dl ov Q (o :: rest) e S A) : LW P n ops dl ov Q rest (e.upd o.dst u) S A := by
  cases h with
  | val v hv h => rw [VStep.det' ha hs hR hu hv]; exact h
  | new mk obj hw hc hn h => rcases hu with ⟨a, b⟩ | ⟨a, b, c⟩ | ⟨a, b, c⟩ | ⟨a, b, c⟩ <;> first | (rw [hw] at a; cases a; done) | (rw [hc] at b; cases b; done)
  | ext R hw hc hr h => rcases hu with ⟨a, b⟩ | ⟨a, b, c⟩ | ⟨a, b, c⟩ | ⟨a, b, c⟩ <;> first | (rw [hw] at a; cases a; done) | (rw [hc] at b; cases b; done)
  | run R hw hc hr h => rcases hu with ⟨a, b⟩ | ⟨a, b, c⟩ | ⟨a, b, c⟩ | ⟨a, b, c⟩ <;> first | (rw [hw] at a; cases a; done) | (rw [hc] at b; cases b; done)
  | cal R hw hc hr h => rcases hu with ⟨a, b⟩ | ⟨a, b, c⟩ | ⟨a, b, c⟩ | ⟨a, b, c⟩ <;> first | (rw [hw] at a; cases a; done) | (rw [hc] at b; cases b; done)
  | rune R hw hc hr h => rcases hu with ⟨a, b⟩ | ⟨a, b, c⟩ | ⟨a, b, c⟩ | ⟨a, b, c⟩ <;> first | (rw [hw] at a; cases a; done) | (rw [hc] at b; cases b; done)

def someWorld (k : Nat) : World := { (default : World) with heap := Array.replicate k default }
theorem NewAt.det {o : Oper} {e : Env} {mk mk' : Nat → Value} {obj obj' : Obj} {a : Act} (ha : EnvOk a n e) (p : NewAt P n o e mk obj) (q : NewAt P n o e mk' obj') : mk = mk' ∧ obj = obj' := by
  constructor
  · funext k
    have e1 := p a (someWorld k) ha
    have e2 := q a (someWorld k) ha
    rw [e1] at e2
    simp only [Result.ok.injEq, Next.value.injEq] at e2
    simpa [someWorld] using e2.1
  · have e1 := p a (someWorld 0) ha
    have e2 := q a (someWorld 0) ha
    rw [e1] at e2
    simp only [Result.ok.injEq, Next.value.injEq] at e2
    have h2 := congrArg (fun w : World => w.heap[0]?) e2.2
    simpa [World.alloc, someWorld] using h2

theorem LW.inv_new {o : Oper} {rest : List Oper} {e : Env} {S A : List As} {mk : Nat → Value} {obj : Obj} {a : Act} (ha : EnvOk a n e) (hw : wants ops e o = some true) (hc : clsOf dl ov o = .L) (hn : NewAt P n o e mk obj)
    (h : LW P n ops dl ov Q (o :: rest) e S A) (b : Nat) (hwit : Wit n (e.upd o.dst (mk b)) (S ++ pt b obj :: A)) : LW P n ops dl ov Q rest (e.upd o.dst (mk b)) S (pt b obj :: A) := by
  cases h with
  | val v hv h => rcases hv with ⟨a, b⟩ | ⟨a, b, c⟩ | ⟨a, b, c⟩ | ⟨a, b, c⟩ <;> first | (rw [hw] at a; cases a; done) | (rw [hc] at b; cases b; done)
  | new mk' obj' hw' hc' hn' h =>
    obtain ⟨rfl, rfl⟩ := NewAt.det ha hn hn'
    exact h b hwit
  | ext R hw' hc' hr h => rw [hc] at hc'; cases hc'
  | run R hw' hc' hr h => rw [hc] at hc'; cases hc'
  | cal R hw' hc' hr h => rw [hc] at hc'; cases hc'
  | rune R hw' hc' hr h => rw [hc] at hc'; cases hc'

theorem LW.swap (hQ : ∀ e M N, M.Perm N → Q e M → Q e N) {j i : Oper} {rest : List Oper} {e : Env} {S A : List As} (hap : Apart ops n j i)
    (hpass : mayPass (clsOf dl ov j) (clsOf dl ov i) = true) (hwit0 : Wit n e (S ++ A))
    (h : LW P n ops dl ov Q (j :: i :: rest) e S A) : LW P n ops dl ov Q (i :: j :: rest) e S A := by
  obtain ⟨⟨a, ha⟩, w, hs⟩ := hwit0
  have hS : Sat w S := hs.ent Ent.dropr
  have comm : ∀ u v, (e.upd j.dst v).upd i.dst u = (e.upd i.dst u).upd j.dst v := fun u v => Env.upd_comm e v u (fun d hd => hap.dd d hd)
  have wj : ∀ v, wants ops (e.upd i.dst v) j = wants ops e j := fun v => wants_upd hap.symm e v
  have wi : ∀ v, wants ops (e.upd j.dst v) i = wants ops e i := fun v => wants_upd hap e v
  have a1 : ∀ v, EnvOk (a.put j.dst v) n (e.upd j.dst v) := fun v => ha.put hap.xn _
  cases h with
  | val v hv h =>
    cases h with
    | val u hu h2 =>
      refine .val u (hu.up hap) (.val v (hv.down hap.symm ha) ?_)
      rw [← comm]; exact h2
    | new mk obj hw hc hn h2 =>
      refine .new mk obj (by rw [← wi v]; exact hw) hc (hn.up hap) (fun b hwit => .val v ((hv.weaken (Ent.drop _)).down hap.symm ha) ?_)
      rw [← comm]; exact h2 b (Wit.mk' ((a1 v).put hap.yn _) hwit.2.choose_spec)
    | ext R hw hc hr h2 =>
      have hR : clsOf dl ov j ≠ .R := by intro hj; rw [hj, hc] at hpass; cases hpass
      refine .ext R (by rw [← wi v]; exact hw) hc (hr.up hap) (fun u X hx hwit => .val v ((hv.anyA hR _).down hap.symm ha) ?_)
      rw [← comm]; exact h2 u X hx (Wit.mk' ((a1 v).put hap.yn _) hwit.2.choose_spec)
    | cal R hw hc hr h2 =>
      have hR : clsOf dl ov j ≠ .R := by intro hj; rw [hj, hc] at hpass; cases hpass
      refine .cal R (by rw [← wi v]; exact hw) hc (hr.up hap) (fun u X hx hwit => .val v ((hv.anyA hR _).down hap.symm ha) ?_)
      rw [← comm]; exact h2 u X hx (Wit.mk' ((a1 v).put hap.yn _) hwit.2.choose_spec)
    | run R hw hc hr h2 =>
      have hR : clsOf dl ov j ≠ .R := by intro hj; rw [hj, hc] at hpass; cases hpass
      have hT : clsOf dl ov j ≠ .T := by intro hj; rw [hj, hc] at hpass; cases hpass
      refine .run R (by rw [← wi v]; exact hw) hc (hr.up hap) (fun u M hx hwit => .val v ((hv.anyS hR hT _ _).down hap.symm ha) ?_)
      rw [← comm]; exact h2 u M hx (Wit.mk' ((a1 v).put hap.yn _) hwit.2.choose_spec)
    | rune R hw hc hr h2 =>
      have hR : clsOf dl ov j ≠ .R := by intro hj; rw [hj, hc] at hpass; cases hpass
      have hT : clsOf dl ov j ≠ .T := by intro hj; rw [hj, hc] at hpass; cases hpass
      refine .rune R (by rw [← wi v]; exact hw) hc (hr.up hap) (fun u S1 A1 hx hwit => .val v ((hv.anyS hR hT _ _).down hap.symm ha) ?_)
      rw [← comm]; exact h2 u S1 A1 hx (Wit.mk' ((a1 v).put hap.yn _) hwit.2.choose_spec)
  | new mk obj hw hc hn h =>
    have h0 := h w.heap.size (Wit.mk' (a1 _) ((hs.alloc obj).ent (Ent.perm List.perm_middle.symm)))
    cases h0 with
    | val u hu h2 =>
      have hR : clsOf dl ov i ≠ .R := by intro hi; rw [hi, hc] at hpass; cases hpass
      have hu' : VStep P n ops dl ov i e S A u := (hu.up hap).anyA hR A
      refine .val u hu' (.new mk obj (by rw [wj]; exact hw) hc (hn.down hap.symm ha) (fun b hwit => ?_))
      rw [← comm]
      exact LW.inv_val (a1 (mk b)) hS hR (hu'.down hap ha) (h b (Wit.mk' (a1 _) hwit.2.choose_spec))
    | new mk2 obj2 hw2 hc2 hn2 h2 =>
      have hn2' := hn2.up hap
      have hw2' : wants ops e i = some true := by rw [← wi]; exact hw2
      refine .new mk2 obj2 hw2' hc2 hn2' (fun b2 hwit2 => .new mk obj (by rw [wj]; exact hw) hc (hn.down hap.symm ha) (fun b hwit => ?_))
      rw [← comm]
      have hp : (pt b obj :: pt b2 obj2 :: A).Perm (pt b2 obj2 :: pt b obj :: A) := List.Perm.swap _ _ _
      exact (LW.inv_new (a1 (mk b)) (by rw [wi]; exact hw2') hc2 (hn2'.down hap ha) (h b (Wit.mk' (a1 _) (hwit.2.choose_spec.ent (Ent.app (Ent.refl S) (Ent.cons _ (Ent.drop _)))))) b2
        (Wit.mk' ((a1 _).put hap.yn _) (hwit.2.choose_spec.ent (Ent.perm (hp.append_left S))))).perm hQ hp
    | ext R hw2 hc2 hr h2 => rw [hc, hc2] at hpass; cases hpass
    | cal R hw2 hc2 hr h2 => rw [hc, hc2] at hpass; cases hpass
    | run R hw2 hc2 hr h2 => rw [hc, hc2] at hpass; cases hpass
    | rune R hw2 hc2 hr h2 => rw [hc, hc2] at hpass; cases hpass
  | ext R hw hc hr h =>
    obtain ⟨v0, w0, M0, ⟨X0, hx0, hM0⟩, hs0, _⟩ := (hr [] a w ha (by simpa using hs)).ex
    have hp0 : ∀ X, (X ++ (S ++ A)).Perm (S ++ (X ++ A)) := fun X => by
      rw [← List.append_assoc, ← List.append_assoc]; exact List.perm_append_comm.append_right A
    have h0 := h v0 X0 hx0 (Wit.mk' (a1 _) (Sat.ent hs0 (by rw [hM0]; exact Ent.trans Ent.dropr (Ent.perm (hp0 X0)))))
    cases h0 with
    | val u hu h2 =>
      have hR : clsOf dl ov i ≠ .R := by intro hi; rw [hi, hc] at hpass; cases hpass
      have hu' : VStep P n ops dl ov i e S A u := (hu.up hap).anyA hR A
      refine .val u hu' (.ext R (by rw [wj]; exact hw) hc (hr.down hap.symm ha) (fun v X hx hwit => ?_))
      rw [← comm]
      exact LW.inv_val (a1 v) hS hR (hu'.down hap ha) (h v X hx (Wit.mk' (a1 _) hwit.2.choose_spec))
    | new mk2 obj2 hw2 hc2 hn2 h2 =>
      have hn2' := hn2.up hap
      have hw2' : wants ops e i = some true := by rw [← wi]; exact hw2
      refine .new mk2 obj2 hw2' hc2 hn2' (fun b2 hwit2 => .ext R (by rw [wj]; exact hw) hc ?_ (fun v X hx hwit => ?_))
      · refine ((hr.frame [pt b2 obj2]).down hap.symm ha).perm (by rw [List.append_assoc]; exact (List.perm_append_comm (l₁ := [pt b2 obj2]) (l₂ := A)).append_left S) ?_
        rintro v M' ⟨M1, ⟨X, hx, rfl⟩, rfl⟩
        exact ⟨_, ⟨X, hx, rfl⟩, by rw [List.append_assoc, List.append_assoc]; exact ((List.perm_append_comm (l₁ := A) (l₂ := [pt b2 obj2])).append_left S).append_left X⟩
      · rw [← comm]
        have hp : (X ++ pt b2 obj2 :: A).Perm (pt b2 obj2 :: (X ++ A)) := List.perm_middle
        exact (LW.inv_new (a1 v) (by rw [wi]; exact hw2') hc2 (hn2'.down hap ha) (h v X hx (Wit.mk' (a1 _) (hwit.2.choose_spec.ent (Ent.app (Ent.refl S) (Ent.trans (Ent.perm hp) (Ent.drop _)))))) b2
          (Wit.mk' ((a1 _).put hap.yn _) (hwit.2.choose_spec.ent (Ent.perm (hp.append_left S))))).perm hQ hp
    | ext R hw2 hc2 hr h2 => rw [hc, hc2] at hpass; cases hpass
    | cal R hw2 hc2 hr h2 => rw [hc, hc2] at hpass; cases hpass
    | run R hw2 hc2 hr h2 => rw [hc, hc2] at hpass; cases hpass
    | rune R hw2 hc2 hr h2 => rw [hc, hc2] at hpass; cases hpass
  | run R hw hc hr h =>
    obtain ⟨v0, w0, M0, hx0, hs0, _⟩ := (hr [] a w ha (by simpa using hs)).ex
    have h0 := h v0 M0 hx0 (Wit.mk' (a1 _) (hs0.ent Ent.dropr))
    have hsn : Sat w [] := trivial
    cases h0 with
    | val u hu h2 =>
      have hR : clsOf dl ov i ≠ .R := by intro hi; rw [hi, hc] at hpass; cases hpass
      have hT : clsOf dl ov i ≠ .T := by intro hi; rw [hi, hc] at hpass; cases hpass
      have hu' := hu.up hap
      refine .val u (hu'.anyS hR hT S A) (.run R (by rw [wj]; exact hw) hc (hr.down hap.symm ha) (fun v M hx hwit => ?_))
      rw [← comm]
      exact LW.inv_val (a1 v) hsn hR (hu'.down hap ha) (h v M hx (Wit.mk' (a1 _) hwit.2.choose_spec))
    | new mk2 obj2 hw2 hc2 hn2 h2 =>
      have hn2' := hn2.up hap
      have hw2' : wants ops e i = some true := by rw [← wi]; exact hw2
      refine .new mk2 obj2 hw2' hc2 hn2' (fun b2 hwit2 => .run _ (by rw [wj]; exact hw) hc (((hr.frame [pt b2 obj2]).down hap.symm ha).perm (by rw [List.append_assoc]; exact (List.perm_append_comm (l₁ := [pt b2 obj2]) (l₂ := A)).append_left S) (fun v M' hm => ⟨M', hm, List.Perm.refl _⟩)) (fun v M hx hwit => ?_))
      obtain ⟨M1, hx1, rfl⟩ := hx
      rw [← comm]
      have hp : (M1 ++ [pt b2 obj2]).Perm (pt b2 obj2 :: M1) := List.perm_append_comm
      exact (LW.inv_new (a1 v) (by rw [wi]; exact hw2') hc2 (hn2'.down hap ha) (h v M1 hx1 (Wit.mk' (a1 _) (hwit.2.choose_spec.ent Ent.dropr))) b2
        (Wit.mk' ((a1 _).put hap.yn _) (hwit.2.choose_spec.ent (Ent.perm hp)))).perm hQ hp
    | ext R hw2 hc2 hr h2 => rw [hc, hc2] at hpass; cases hpass
    | cal R hw2 hc2 hr h2 => rw [hc, hc2] at hpass; cases hpass
    | run R hw2 hc2 hr h2 => rw [hc, hc2] at hpass; cases hpass
    | rune R hw2 hc2 hr h2 => rw [hc, hc2] at hpass; cases hpass
  | cal R hw hc hr h =>
    have hsA : Sat w A := hs.ent Ent.dropl
    obtain ⟨v0, w0, M0, hx0, hs0, _⟩ := (hr S a w ha (hs.ent (Ent.perm List.perm_append_comm))).ex
    have h0 := h v0 M0 hx0 (Wit.mk' (a1 _) (hs0.ent (Ent.perm List.perm_append_comm)))
    cases h0 with
    | val u hu h2 =>
      have hR : clsOf dl ov i ≠ .R := by intro hi; rw [hi, hc] at hpass; cases hpass
      have hu' : VStep P n ops dl ov i e S A u := (hu.up hap).anyA hR A
      refine .val u hu' (.cal R (by rw [wj]; exact hw) hc (hr.down hap.symm ha) (fun v M hx hwit => ?_))
      rw [← comm]
      exact LW.inv_val (a1 v) hS hR (hu'.down hap ha) (h v M hx (Wit.mk' (a1 _) hwit.2.choose_spec))
    | new mk2 obj2 hw2 hc2 hn2 h2 =>
      have hn2' := hn2.up hap
      have hw2' : wants ops e i = some true := by rw [← wi]; exact hw2
      refine .new mk2 obj2 hw2' hc2 hn2' (fun b2 hwit2 => .cal _ (by rw [wj]; exact hw) hc (((hr.frame [pt b2 obj2]).down hap.symm ha).perm (List.perm_append_comm (l₁ := [pt b2 obj2]) (l₂ := A)) (fun v M' hm => ⟨M', hm, List.Perm.refl _⟩)) (fun v M hx hwit => ?_))
      obtain ⟨M1, hx1, rfl⟩ := hx
      rw [← comm]
      have hp : (M1 ++ [pt b2 obj2]).Perm (pt b2 obj2 :: M1) := List.perm_append_comm
      exact (LW.inv_new (a1 v) (by rw [wi]; exact hw2') hc2 (hn2'.down hap ha) (h v M1 hx1 (Wit.mk' (a1 _) (hwit.2.choose_spec.ent (Ent.app (Ent.refl S) Ent.dropr)))) b2
        (Wit.mk' ((a1 _).put hap.yn _) (hwit.2.choose_spec.ent (Ent.perm (hp.append_left S))))).perm hQ hp
    | ext R hw2 hc2 hr h2 => rw [hc, hc2] at hpass; cases hpass
    | cal R hw2 hc2 hr h2 => rw [hc, hc2] at hpass; cases hpass
    | run R hw2 hc2 hr h2 => rw [hc, hc2] at hpass; cases hpass
    | rune R hw2 hc2 hr h2 => rw [hc, hc2] at hpass; cases hpass
  | rune R hw hc hr h =>
    obtain ⟨v0, w0, M0, ⟨S0, A0, hx0, hM0⟩, hs0, _⟩ := (hr [] a w ha (by simpa using hs)).ex
    have h0 := h v0 S0 A0 hx0 (Wit.mk' (a1 _) (by rw [hM0] at hs0; exact hs0.ent Ent.dropr))
    cases h0 with
    | val u hu h2 =>
      have hR : clsOf dl ov i ≠ .R := by intro hi; rw [hi, hc] at hpass; cases hpass
      have hT : clsOf dl ov i ≠ .T := by intro hi; rw [hi, hc] at hpass; cases hpass
      have hu' := hu.up hap
      refine .val u (hu'.anyS hR hT S A) (.rune R (by rw [wj]; exact hw) hc (hr.down hap.symm ha) (fun v S1 A1 hx hwit => ?_))
      rw [← comm]
      exact LW.inv_val (a1 v) (hwit.2.choose_spec.ent Ent.dropr) hR ((hu'.anyS hR hT S1 A1).down hap ha) (h v S1 A1 hx (Wit.mk' (a1 _) hwit.2.choose_spec))
    | new mk2 obj2 hw2 hc2 hn2 h2 =>
      have hn2' := hn2.up hap
      have hw2' : wants ops e i = some true := by rw [← wi]; exact hw2
      refine .new mk2 obj2 hw2' hc2 hn2' (fun b2 hwit2 => .rune (fun v S1 A1 => ∃ A2, R v S1 A2 ∧ A1 = A2 ++ [pt b2 obj2]) (by rw [wj]; exact hw) hc (((hr.frame [pt b2 obj2]).down hap.symm ha).perm (by rw [List.append_assoc]; exact (List.perm_append_comm (l₁ := [pt b2 obj2]) (l₂ := A)).append_left S) ?_) (fun v S1 A1 hx hwit => ?_))
      · rintro v M' ⟨M1, ⟨S1, A1, hx, rfl⟩, rfl⟩
        exact ⟨_, ⟨S1, A1 ++ [pt b2 obj2], ⟨A1, hx, rfl⟩, rfl⟩, by rw [List.append_assoc]⟩
      obtain ⟨A2, hx1, rfl⟩ := hx
      rw [← comm]
      have hp : (A2 ++ [pt b2 obj2]).Perm (pt b2 obj2 :: A2) := List.perm_append_comm
      exact (LW.inv_new (a1 v) (by rw [wi]; exact hw2') hc2 (hn2'.down hap ha) (h v S1 A2 hx1 (Wit.mk' (a1 _) (hwit.2.choose_spec.ent (Ent.app (Ent.refl S1) Ent.dropr)))) b2
        (Wit.mk' ((a1 _).put hap.yn _) (hwit.2.choose_spec.ent (Ent.perm (hp.append_left S1))))).perm hQ hp
    | ext R hw2 hc2 hr h2 => rw [hc, hc2] at hpass; cases hpass
    | cal R hw2 hc2 hr h2 => rw [hc, hc2] at hpass; cases hpass
    | run R hw2 hc2 hr h2 => rw [hc, hc2] at hpass; cases hpass
    | rune R hw2 hc2 hr h2 => rw [hc, hc2] at hpass; cases hpass
end
end Go.Sl
