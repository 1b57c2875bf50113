import Derived.Test.YtjmfnakplmmpnaaDoorXAQ
import Derived.Sort.KeysCollected
import Derived.Sort.Walk0
namespace Go.Sl
set_option linter.unusedVariables false
set_option linter.unusedSimpArgs false
open Go.Maps Go.Sort
section
variable {P : Program} {n : Nat}
theorem LLoop.invN {α : Type} (ρ : α → List (Nat × Value)) (L : α → List As) (p : α → Prop) (μ : α → Nat) {c : Code} {e : Env} {M : List As} {Q : Exit → Env → List As → Prop} (x0 : α) (h0 : p x0) (he : Sub (ρ x0) e) (hM : Ent M (L x0))
    (h : ∀ x, p x → LNext P n c (look (ρ x)) (L x) (fun ex e' M' => match ex with | .normal => LAgain ρ L p μ x e' M' | ex => Q ex e' M')) : LLoop P n c e M Q := by
  refine ⟨fun F a w ha hs => ?_⟩
  refine wp_loop_ghost (fun k a w' => ∃ x, p x ∧ μ x = k ∧ EnvOk a n (look (ρ x)) ∧ Sat w' (L x ++ F) ∧ Nx w w') (μ x0)
    ⟨x0, h0, rfl, ha.sub he, hs.ent (Ent.app hM (Ent.refl F)), Nx.refl _⟩ ?_
  rintro k a' w' ⟨x, hx, rfl, ha', hs', hn'⟩
  refine wp_mono ((h x hx).h F a' w' ha' hs') ?_
  rintro ex a2 w2 ⟨e2, M2, hq, ha2, hs2, hn2⟩
  cases ex with
  | normal =>
    obtain ⟨x', hx', hlt, hsub, hent⟩ := hq.ex
    exact ⟨μ x', hlt, x', hx', rfl, ha2.sub hsub, hs2.ent (Ent.app hent (Ent.refl F)), hn'.trans hn2⟩
  | exit id => exact ⟨e2, M2, hq, ha2, hs2, hn'.trans hn2⟩
  | goto l => exact ⟨e2, M2, hq, ha2, hs2, hn'.trans hn2⟩
  | ret => exact ⟨e2, M2, hq, ha2, hs2, hn'.trans hn2⟩
  | panic ch => exact ⟨e2, M2, hq, ha2, hs2, hn'.trans hn2⟩
  | outgrown => exact ⟨e2, M2, hq, ha2, hs2, hn'.trans hn2⟩
theorem LLoop.ex {α : Type} {c : Code} {e : Env} {M : List As} {N : α → List As} {p : α → Prop} {Q : Exit → Env → List As → Prop} (hM : ∀ h, Stars M h → ∃ x, p x ∧ Stars (N x) h) (h : ∀ x, p x → LLoop P n c e (N x) Q) : LLoop P n c e M Q :=
  ⟨(LNext.ex (n := n) (c := .loop c) hM (fun x hx => ⟨(h x hx).h⟩)).h⟩
end
theorem LDraw.ov {P : Program} {Γ : Tab P} {n : Nat} {l : List Oper} {e : Env} {M : List As} {K : Env → List As → Prop} (ov : List (Tmp × Cls)) (hc : regionChk n .T ov l = true) (h : vcD Γ l.toArray .T ov l e M [] K) : LDraw Γ n l e M K :=
  ⟨.T, ov, M, [], hc, by rw [List.append_nil]; exact Ent.refl _, h⟩
theorem Sat.newRow {w w' : World} {L : List As} {E : TypeId} {sz : Nat} {v : Value} {n : Nat} {xs : List Value} (hs : Sat w L) (hb : Go.RowKit.Below w.heap.size w w') (hr : w'.ownsRow w.heap.size E sz v n xs) :
    ∃ a cap, v = .slice a n cap ∧ Sat w' (Row E sz a n cap xs :: L) := by
  have hle : Hp.le (hpOf w) (hpOf w') := by
    intro b o e
    have hlt : b < w.heap.size := by
      rcases Nat.lt_or_ge b w.heap.size with h | h
      · exact h
      · have : w.heap[b]? = none := Array.getElem?_eq_none h
        have e' : w.heap[b]? = some o := e
        rw [this] at e'; cases e'
    show w'.heap[b]? = some o
    rw [hb.block b hlt]; exact e
  obtain ⟨h1, h2⟩ := hr
  rcases h2 with ⟨rfl, hn⟩ | ⟨g, cap, cur, rfl, hg, hh, q1, q2, q3, q4⟩
  · refine ⟨none, 0, by rw [hn], Hp.nil, hpOf w, Hp.dis_nil _, Hp.nil_le _, hle, ⟨h1, .inl ⟨rfl, hn, rfl⟩⟩, hs⟩
  · refine ⟨_, cap, rfl, Hp.one g (.cells cur E (0, 0)), hpOf w, ?_, ?_, hle, ⟨h1, .inr ⟨g, cur, rfl, by simp [Hp.one], q1, q2, q3, q4⟩⟩, hs⟩
    · intro c
      by_cases e : c = g
      · subst e; right; show w.heap[c]? = none; exact Array.getElem?_eq_none hg
      · left; simp [Hp.one, e]
    · intro c x e
      unfold Hp.one at e
      split at e
      · rename_i ec; cases e; subst ec; exact hh
      · cases e
end Go.Sl
