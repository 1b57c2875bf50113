import Derived.Test.YtkfebhogimmoeaaSlK
import Derived.OrdersHeld
/-! A region whose order is open, gone through order by order: what yields a value wherever S0 holds is taken first; of the others each may come. -/
namespace Go.Sl
set_option linter.unusedVariables false
set_option linter.unusedSimpArgs false
section
variable {P : Program} {n : Nat} {ops : Array Oper} {S0 : List As} {K : Env → List As → Prop}
/-- Whatever order is picked from here on, K holds at the end. -/
structure AW (P : Program) (n : Nat) (ops : Array Oper) (S0 : List As) (K : Env → List As → Prop) (fuel : Nat) (listed : Array Bool) (e : Env) (A : List As) : Prop where
  h : ∀ F w0 a w, EnvOk a n e → Sat w (S0 ++ A ++ F) → Nx w0 w →
    wpAnyH P .any ops (fun x a' w' => ∃ e' M', (x = .normal ∧ K e' M') ∧ EnvOk a' n e' ∧ Sat w' (M' ++ F) ∧ Nx w0 w') (fun w => Sat w S0) fuel listed a w
theorem AW.done {fuel : Nat} {listed : Array Bool} {e : Env} {A : List As} (hr : Region.ready .any ops listed = []) (h : K e (S0 ++ A)) : AW P n ops S0 K fuel listed e A :=
  ⟨fun F w0 a w ha hs hn => wpAnyH_done hr ⟨e, S0 ++ A, ⟨rfl, h⟩, ha, hs, hn⟩ fuel⟩
theorem AW.take {fuel : Nat} {listed : Array Bool} {e : Env} {A : List As} (i : Nat) {o : Oper} {v : Value} (hi : ops[i]? = some o) (hs : Region.noSelect ops = true) (hf : Region.free .any ops listed i = true) (hr : (Region.ready .any ops listed).contains i = true)
    (hw : wants ops e o = some true) (hd : dstOk n o = true) (hv : GetAt P n o e S0 v) (h : AW P n ops S0 K fuel (listed.setIfInBounds i true) (e.upd o.dst v) A) : AW P n ops S0 K (fuel + 1) listed e A :=
  ⟨fun F w0 a w ha hsat hn => by
    have hS : Sat w S0 := (hsat.ent Ent.dropr).ent Ent.dropr
    exact wpAnyH_take hi hs hf hr (fun c a w hq => by obtain ⟨_, _, ⟨hx, _⟩, _⟩ := hq; cases hx) (.inl ⟨wants_sound ha hw, fun w' hw' => hv a w' ha hw'⟩) hS (h.h F w0 _ w (ha.put hd _) hsat hn)⟩
/-- One operation that may come now. -/
structure AStep (P : Program) (n : Nat) (ops : Array Oper) (S0 : List As) (K : Env → List As → Prop) (fuel : Nat) (listed : Array Bool) (e : Env) (A : List As) (i : Nat) : Prop where
  ex : ∃ o R, ops[i]? = some o ∧ wants ops e o = some true ∧ dstOk n o = true ∧ RunAt P n o e A R ∧ ∀ v A', R v A' → AW P n ops S0 K fuel (listed.setIfInBounds i true) (e.upd o.dst v) A'
theorem AW.all {fuel : Nat} {listed : Array Bool} {e : Env} {A : List As} (rs : List Nat) (hr : Region.ready .any ops listed = rs) (hne : rs ≠ []) (h : ∀ i ∈ rs, AStep P n ops S0 K fuel listed e A i) : AW P n ops S0 K (fuel + 1) listed e A :=
  ⟨fun F w0 a w ha hsat hn => wpAnyH_all hr hne (fun i hi => by
    obtain ⟨o, R, ho, hw, hd, hrun, hk⟩ := (h i hi).ex
    unfold wpOp
    rw [ho]
    dsimp only
    rw [if_pos (wants_sound ha hw)]
    refine .inl ((hrun (S0 ++ F) a w ha (hsat.ent (Ent.perm ?_))).wp ?_)
    · rw [← List.append_assoc]
      exact List.perm_append_comm.append_right F
    · rintro v w' ⟨A', hx, hs', hn'⟩
      have hs2 : Sat w' (S0 ++ A' ++ F) := hs'.ent (Ent.perm (by
        rw [← List.append_assoc]
        exact List.perm_append_comm.append_right F))
      exact ⟨(hs2.ent Ent.dropr).ent Ent.dropr, (hk v A' hx).h F w0 _ w' (ha.put hd _) hs2 (hn.trans hn')⟩)⟩
theorem AStep.of (Γ : Tab P) {fuel : Nat} {listed : Array Bool} {e : Env} {A : List As} {i : Nat} {o : Oper} (ho : ops[i]? = some o) (hw : wants ops e o = some true) (hd : dstOk n o = true)
    (h : stepT Γ [] o e A (fun v A' => AW P n ops S0 K fuel (listed.setIfInBounds i true) (e.upd o.dst v) A')) : AStep P n ops S0 K fuel listed e A i := by
  obtain ⟨R, hr, hk⟩ := stepT_ok (n := n) (ops := ops) h
  exact ⟨⟨o, R, ho, hw, hd, hr, hk⟩⟩
theorem AW.get (Γ : Tab P) {fuel : Nat} {listed : Array Bool} {e : Env} {A : List As} (i : Nat) {o : Oper} (hi : ops[i]? = some o) (hs : Region.noSelect ops = true) (hf : Region.free .any ops listed i = true) (hr : (Region.ready .any ops listed).contains i = true)
    (hw : wants ops e o = some true) (hd : dstOk n o = true) (h : getStep Γ o e S0 (fun v => AW P n ops S0 K fuel (listed.setIfInBounds i true) (e.upd o.dst v) A)) : AW P n ops S0 K (fuel + 1) listed e A := by
  obtain ⟨v, hk, hv⟩ := getStep_ok (n := n) h
  exact AW.take i hi hs hf hr hw hd hv hk
theorem AW.all2 {fuel : Nat} {listed : Array Bool} {e : Env} {A : List As} (i j : Nat) (hr : Region.ready .any ops listed = [i, j]) (h1 : AStep P n ops S0 K fuel listed e A i) (h2 : AStep P n ops S0 K fuel listed e A j) : AW P n ops S0 K (fuel + 1) listed e A :=
  AW.all [i, j] hr (by simp) (fun k hk => by
    simp only [List.mem_cons, List.not_mem_nil, or_false] at hk
    rcases hk with rfl | rfl
    · exact h1
    · exact h2)
theorem AW.all1 {fuel : Nat} {listed : Array Bool} {e : Env} {A : List As} (i : Nat) (hr : Region.ready .any ops listed = [i]) (h1 : AStep P n ops S0 K fuel listed e A i) : AW P n ops S0 K (fuel + 1) listed e A :=
  AW.all [i] hr (by simp) (fun k hk => by
    rw [List.mem_singleton] at hk
    subst hk
    exact h1)
/-- The region: K1 is what each order leaves. -/
theorem LDraw.orders (Γ : Tab P) {l : List Oper} {e : Env} {M A : List As} (S0 : List As) (K1 : Env → List As → Prop) (hM : Split M S0 A) (h : AW P n l.toArray S0 K1 l.length (Array.replicate l.length false) e A) (hk : ∀ e M, K1 e M → K e M) : LDraw Γ n l e M K :=
  ⟨.inr (fun id F a w ha hs => by
    have hs' : Sat w (S0 ++ A ++ F) := hs.ent (Ent.app hM.h (Ent.refl F))
    have h1 := h.h F w a { w with drawn := w.drawn + 1 } ha (hs'.same rfl) ⟨rfl, rfl, rfl, Nat.le_refl _⟩
    have h2 := wp_region_held (id := id) (ops := l.toArray) (a := a) (w := w) (S := fun w => Sat w S0) Γ.mixed (by simp only [List.size_toArray]; exact h1)
    refine wp_mono h2 ?_
    rintro x a' w' ⟨e', M', ⟨rfl, q⟩, q2⟩
    exact ⟨e', M', ⟨rfl, hk _ _ q⟩, q2⟩)⟩
end
end Go.Sl
