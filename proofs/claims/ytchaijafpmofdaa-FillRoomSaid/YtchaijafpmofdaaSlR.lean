import Derived.Test.YtchaijafpmofdaaSlQ
import Derived.Sort.KeysCollected
import Derived.Sort.Walk0
/-! Sorted keys of a map: from the kit's words to this layer's. -/
namespace Go.Sl
set_option linter.unusedVariables false
set_option linter.unusedSimpArgs false
open Go.Maps Go.Sort

section
variable {P : Program} {n : Nat}
/-- A loop's invariant; the body as LNext, so that what is hidden can be opened. -/
theorem LLoop.invN {α : Type} (ρ : α → List (Nat × Value)) (L : α → List As) (p : α → Prop) (μ : α → Nat) {c : Code} {e : Env} {M : List As} {Q : Exit → Env → List As → Prop} (x0 : α) (h0 : p x0) (he : Sub (ρ x0) e) (hM : Ent M (L x0))
    (h : ∀ x, p x → LNext P n c (look (ρ x)) (L x) (fun ex e' M' => match ex with | .normal => LAgain ρ L p μ x e' M' | ex => Q ex e' M')) : LLoop P n c e M Q := by
  refine ⟨fun F a w ha hs => ?_⟩
  refine wp_loop_ghost (fun k a w' => ∃ x, p x ∧ μ x = k ∧ EnvOk a n (look (ρ x)) ∧ Sat w' (L x ++ F) ∧ Nx w w') (μ x0)
    ⟨x0, h0, rfl, ha.sub he, hs.ent (Ent.app hM (Ent.refl F)), Nx.refl _⟩ ?_
  rintro k a' w' ⟨x, hx, rfl, ha', hs', hn'⟩
  refine wp_mono ((h x hx).h F a' w' ha' hs') ?_
  rintro ex a2 w2 ⟨e2, M2, hq, ha2, hs2, hn2⟩
  cases ex with
  | normal =>
    obtain ⟨x', hx', hlt, hsub, hent⟩ := hq.ex
    exact ⟨μ x', hlt, x', hx', rfl, ha2.sub hsub, hs2.ent (Ent.app hent (Ent.refl F)), hn'.trans hn2⟩
  | exit id => exact ⟨e2, M2, hq, ha2, hs2, hn'.trans hn2⟩
  | goto l => exact ⟨e2, M2, hq, ha2, hs2, hn'.trans hn2⟩
  | ret => exact ⟨e2, M2, hq, ha2, hs2, hn'.trans hn2⟩
  | panic ch => exact ⟨e2, M2, hq, ha2, hs2, hn'.trans hn2⟩
  | outgrown => exact ⟨e2, M2, hq, ha2, hs2, hn'.trans hn2⟩
theorem LLoop.ex {α : Type} {c : Code} {e : Env} {M : List As} {N : α → List As} {p : α → Prop} {Q : Exit → Env → List As → Prop} (hM : ∀ h, Stars M h → ∃ x, p x ∧ Stars (N x) h) (h : ∀ x, p x → LLoop P n c e (N x) Q) : LLoop P n c e M Q :=
  ⟨(LNext.ex (n := n) (c := .loop c) hM (fun x hx => ⟨(h x hx).h⟩)).h⟩
end
/-- A region in which some operations are of other classes: (the slot that one writes, its class). -/
theorem LDraw.ov {P : Program} {Γ : Tab P} {n : Nat} {l : List Oper} {e : Env} {M : List As} {K : Env → List As → Prop} (ov : List (Tmp × Cls)) (hc : regionChk n .T ov l = true) (h : vcD Γ l.toArray .T ov l e M [] K) : LDraw Γ n l e M K :=
  ⟨.inl ⟨.T, ov, M, [], hc, by rw [List.append_nil]; exact Ent.refl _, h⟩⟩
/-- A row that a call has made, beside what was there. -/
theorem Sat.newRow {w w' : World} {L : List As} {E : TypeId} {sz : Nat} {v : Value} {n : Nat} {xs : List Value} (hs : Sat w L) (hb : Go.RowKit.Below w.heap.size w w') (hr : w'.ownsRow w.heap.size E sz v n xs) :
    ∃ a cap, v = .slice a n cap ∧ Sat w' (Row E sz a n cap xs :: L) := by
  have hle : Hp.le (hpOf w) (hpOf w') := by
    intro b o e
    have hlt : b < w.heap.size := by
      rcases Nat.lt_or_ge b w.heap.size with h | h
      · exact h
      · have : w.heap[b]? = none := Array.getElem?_eq_none h
        have e' : w.heap[b]? = some o := e
        rw [this] at e'; cases e'
    show w'.heap[b]? = some o
    rw [hb.block b hlt]; exact e
  obtain ⟨h1, h2⟩ := hr
  rcases h2 with ⟨rfl, hn⟩ | ⟨g, cap, cur, rfl, hg, hh, q1, q2, q3, q4⟩
  · refine ⟨none, 0, by rw [hn], Hp.nil, hpOf w, Hp.dis_nil _, Hp.nil_le _, hle, ⟨h1, .inl ⟨rfl, hn, rfl⟩⟩, hs⟩
  · refine ⟨_, cap, rfl, Hp.one g (.cells cur E (0, 0)), hpOf w, ?_, ?_, hle, ⟨h1, .inr ⟨g, cur, rfl, by simp [Hp.one], q1, q2, q3, q4⟩⟩, hs⟩
    · intro c
      by_cases e : c = g
      · subst e; right; show w.heap[c]? = none; exact Array.getElem?_eq_none hg
      · left; simp [Hp.one, e]
    · intro c x e
      unfold Hp.one at e
      split at e
      · rename_i ec; cases e; subst ec; exact hh
      · cases e
/-- Lists of names that rise are sorted. -/
theorem sort_names {ss : List (List UInt8)} {ns : List ByteArray} (h : ns.Pairwise (fun a b => ltS a b = true)) (p : ss.Perm (ns.map (fun s => s.data.toList))) :
    (ss.mergeSort (fun x y => decide (x ≤ y))).map (fun x => Value.string ⟨x.toArray⟩) = ns.map Value.string := by
  have e : ∀ x y : List UInt8, decide (x ≤ y) = !(Op.bytesLess y x) := fun x y => by
    rw [Go.Proofs.bytesLess_eq]
    by_cases h : y < x
    · have : ¬ x ≤ y := fun q => q h
      simp [h, this]
    · have : x ≤ y := h
      simp [h, this]
  have tr : ∀ a b c : List UInt8, decide (a ≤ b) = true → decide (b ≤ c) = true → decide (a ≤ c) = true := by
    intro a b c h1 h2
    rw [e] at *
    simp only [Bool.not_eq_true'] at *
    cases q : Op.bytesLess c a with
    | false => rfl
    | true =>
      rcases bl_tri a b with t | t | t
      · rw [bl_trans q t] at h2; cases h2
      · subst t; rw [q] at h2; cases h2
      · rw [t] at h1; cases h1
  have to : ∀ a b : List UInt8, (decide (a ≤ b) || decide (b ≤ a)) = true := by
    intro a b
    rw [e, e]
    cases q : Op.bytesLess a b with
    | false => simp
    | true =>
      cases q2 : Op.bytesLess b a with
      | false => simp
      | true => have := bl_trans q q2; rw [bl_irrefl] at this; cases this
  have hm : ss.mergeSort (fun x y => decide (x ≤ y)) = ns.map (fun s => s.data.toList) := by
    refine List.Perm.eq_of_pairwise (le := fun x y => decide (x ≤ y) = true) ?_ (List.pairwise_mergeSort tr to ss) ?_ ((List.mergeSort_perm ss _).trans p)
    · intro a b _ _ h1 h2
      rw [e] at h1 h2
      rcases bl_tri a b with t | t | t
      · rw [t] at h2; cases h2
      · exact t
      · rw [t] at h1; cases h1
    · rw [List.pairwise_map]
      refine h.imp ?_
      intro a b q
      rw [e]
      have q' : Op.bytesLess a.data.toList b.data.toList = true := q
      cases q2 : Op.bytesLess b.data.toList a.data.toList with
      | false => rfl
      | true => have := bl_trans q' q2; rw [bl_irrefl] at this; cases this
  rw [hm, List.map_map]
  rfl
/-- A map of this layer's in the kit's words. -/
theorem owns_of {P : Program} (Γ : Tab P) {w : World} {kt : TypeId} {β : Type} {ev : β → Value} {b : Nat} {L : List (ByteArray × β)} {M : List As} (hk : Γ.und kt = some .string) (hs : Sat w (MapA .string Value.string ev b L :: M)) (hsz : ∀ p ∈ L, p.1.size ≤ maxLen) (hn : L.length ≤ maxLen) :
    ∃ D : DataW Unit, w.ownsMap P kt (fun _ => some (.nil, [])) b L.length D ∧ Maps.size D = L.length ∧ (strKeys D).Perm (L.map (fun p => p.1.data.toList)) := by
  obtain ⟨h1, _, _, l1, _, ⟨es, clock, hb, hm, st⟩, _⟩ := hs
  have hb' : w.heap[b]? = some (.map es clock) := l1 b _ hb
  have hl : es.size = L.length := by
    have := congrArg List.length hm
    simpa using this
  have hund := Γ.und_ok _ _ hk
  have hkeys : ∀ x ∈ es.toList, ∃ p ∈ L, x.key = .string p.1 ∧ x.val = ev p.2 := by
    intro x hx
    have : (x.key, x.val) ∈ es.toList.map (fun e => (e.key, e.val)) := List.mem_map.2 ⟨x, hx, rfl⟩
    rw [hm] at this
    obtain ⟨p, hp, e⟩ := List.mem_map.1 this
    injection e with e1 e2
    exact ⟨p, hp, e1.symm, e2.symm⟩
  have hrd : ∀ (x : MapEntry) (s : ByteArray), x.key = .string s → s.size ≤ maxLen → Go.WideElems.rd (H := Unit) P kt (fun _ => some (.nil, [])) x = some (.string s.data.toList, .nil) := by
    intro x s e h
    unfold Go.WideElems.rd
    rw [e]
    have : keyOf P kt (.string s) = some (.string s.data.toList) := by
      unfold keyOf; rw [hund]; simp [mapKey, hund, h]
    rw [this]; rfl
  refine ⟨_, ⟨es, clock, hb', ⟨by omega, st, fun x hx => ?_⟩, by omega, rfl⟩, ?_, ?_⟩
  · obtain ⟨p, hp, e1, _⟩ := hkeys x hx
    exact ⟨_, hrd x _ e1 (hsz p hp)⟩
  · rw [Maps.size_eq, Go.length_sorted]
    simp; omega
  · unfold strKeys
    dsimp only
    refine ((Go.WideShapes.sorted_perm _).map _).trans ?_
    rw [List.map_map]
    have e1 : es.toList.map ((fun p => strOf p.1) ∘ Go.WideElems.rg (H := Unit) P kt (fun _ => some (.nil, []))) = (es.toList.map (fun e => (e.key, e.val))).map (fun q => match q.1 with | .string s => s.data.toList | _ => []) := by
      rw [List.map_map]
      refine List.map_congr_left fun x hx => ?_
      obtain ⟨p, hp, q1, _⟩ := hkeys x hx
      show strOf (Go.WideElems.rg P kt _ x).1 = _
      unfold Go.WideElems.rg
      rw [hrd x _ q1 (hsz p hp)]
      simp [strOf, q1]
    rw [e1, hm, List.map_map]
    exact List.Perm.refl _
end Go.Sl
