import Derived.Test.YtchaijafpmofdaaFlG
import Derived.Test.YtchaijafpmofdaaSlT
import Derived.Test.YtchaijafpmofdaaRows
/- FillRoom: a gang that has a start finds room just then, and at no tick ahead of it: for all ticks, gangs, runs and slots. -/
namespace Go.Proofs.Ytchaijafpmofdaa
open Go.Sl
open Go.ChangeShapes Go.WideShapes Go.ChangeAt Go.RowKit
set_option linter.unusedVariables false

theorem own : ownKnob Try.prog.godebug = none := by kernel_rfl
theorem laidOut : laidOutB Try.prog = true := by kernel_rfl
theorem SlV.Good.lies {α : Type} {w : World} {enc : α → List Value} {good : α → Prop} {s : SlV α} {sz : Nat} (g : SlV.Good w enc good s) (he : ∀ x, (enc x).length = sz) : RdH [Old w] s.a sz enc s.xs := by
  rcases g.at' with h | ⟨b, o, e, h⟩
  · rw [h]; exact .nil
  · rw [e]
    refine .lies ⟨fun i x hx => ⟨fun j v hj => Cell.old ?_⟩⟩
    have hlt := (List.getElem?_eq_some_iff.1 hj).1
    rw [he] at hlt
    rw [Nat.add_assoc]
    exact h _ v (by rw [flat_get he hx hlt]; exact hj)
structure OpF (P : Program) (w : World) (fs : List Field) (off : Nat) {α : Type} (enc : α → List Value) (good : α → Prop) : Prop where
  h : OpensF P w fs off enc good
structure Op1 (P : Program) (w : World) (t : TypeId) {α : Type} (enc : α → List Value) (good : α → Prop) : Prop where
  h : Opens P w t enc good
theorem OpF.nil {P : Program} {w : World} {off : Nat} : OpF P w [] off (fun _ : Unit => []) (fun _ => True) := ⟨OpensF.nil⟩
theorem OpF.cons {P : Program} (Γ : Tab P) {w : World} {f : Field} {fs : List Field} {off sz by' : Nat} {z : Value} {α β : Type} {enc : α → List Value} {good : α → Prop} {enc' : β → List Value} {good' : β → Prop} (hi : Γ.inf f.type = some (z, sz, by')) (hoff : f.offset = off) (ho : Op1 P w f.type enc good) (hr : OpF P w fs (off + sz) enc' good') :
    OpF P w (f :: fs) off (fun x : α × β => enc x.1 ++ enc' x.2) (fun x => good x.1 ∧ good' x.2) := ⟨OpensF.cons Γ hi hoff ho.h hr.h⟩
theorem Op1.struct {P : Program} (Γ : Tab P) {w : World} {t : TypeId} {fs : Array Field} {z : Value} {sz by' : Nat} {α : Type} {enc : α → List Value} {good : α → Prop} (hu : Γ.und t = some (.struct fs)) (hi : Γ.inf t = some (z, sz, by')) (ho : OpF P w fs.toList 0 enc good) (hsum : (fs.toList.map (fun f => P.cellsOf f.type)).sum = sz) :
    Op1 P w t enc good := ⟨Opens.struct Γ hu hi ho.h hsum⟩
theorem Op1.to {P : Program} {w : World} {t : TypeId} {α β : Type} {enc : α → List Value} {good : α → Prop} (ho : Op1 P w t enc good) (enc' : β → List Value) (good' : β → Prop) (f : α → β) (he : ∀ x, good x → enc x = enc' (f x)) (hg : ∀ x, good x → good' (f x)) : Opens P w t enc' good' := Opens.map f he hg ho.h
theorem opVec (w : World) : Opens Try.prog w 46 encV (fun _ => True) :=
  Opens.map (fun x => match x with | ⟨[a, b, c, d], _⟩ => (a, b, c, d) | _ => (0, 0, 0, 0)) (fun x _ => by
    obtain ⟨xs, hx⟩ := x
    match xs, hx with
    | [a, b, c, d], _ => rfl) (fun _ _ => trivial) (Opens.arr tab (n := 4) (sz := 1) rfl rfl rfl rfl (fun _ => rfl) (Opens.int tab rfl))
theorem opSlot (w : World) : Opens Try.prog w 48 encSlot (fun _ => True) := by
  have h := Op1.struct (P := Try.prog) (w := w) (t := 48) tab rfl rfl (OpF.cons tab rfl rfl ⟨Opens.str tab rfl⟩ (OpF.cons tab rfl rfl ⟨opVec w⟩ OpF.nil)) (by kernel_rfl)
  intro H; exact h.to encSlot (fun _ => True) (fun x => (x.1, x.2.1)) (fun x _ => rfl) (fun _ _ => trivial)
def goodRun (w : World) (v : RunT) : Prop := SlV.Good w encV (fun _ => True) v.tasks ∧ SlV.Good w Go.Sl.encS (fun s => s.size ≤ maxLen) v.nodes
theorem opRun (w : World) : Opens Try.prog w 42 encRun (goodRun w) := by
  have h := Op1.struct (P := Try.prog) (w := w) (t := 42) tab rfl rfl (OpF.cons tab rfl rfl ⟨Opens.int tab rfl⟩ (OpF.cons tab rfl rfl ⟨Opens.int tab rfl⟩ (OpF.cons tab rfl rfl ⟨Opens.slice (enc := encV) tab rfl rfl (by decide) (fun _ => rfl) (opVec w)⟩ (OpF.cons tab rfl rfl ⟨Opens.slice (enc := Go.Sl.encS) tab rfl rfl (by decide) (fun _ => rfl) (Opens.str tab rfl)⟩ OpF.nil)))) (by kernel_rfl)
  intro H; exact h.to encRun (goodRun w) (fun x => ⟨x.1, x.2.1, x.2.2.1, x.2.2.2.1⟩) (fun x _ => rfl) (fun x g => ⟨g.2.2.1, g.2.2.2.1⟩)
abbrev encAsked (x : Int × Int × SlV V4 × SlV V4) : List Value := [.int .i64 x.1, .int .i64 x.2.1, x.2.2.1.val, x.2.2.2.val]
theorem opAsked (w : World) : Opens Try.prog w 24 encAsked (fun x => SlV.Good w encV (fun _ => True) x.2.2.1) := by
  have h := Op1.struct (P := Try.prog) (w := w) (t := 24) tab rfl rfl (OpF.cons tab rfl rfl ⟨Opens.int tab rfl⟩ (OpF.cons tab rfl rfl ⟨Opens.int tab rfl⟩ (OpF.cons tab rfl rfl ⟨Opens.slice (enc := encV) tab rfl rfl (by decide) (fun _ => rfl) (opVec w)⟩ (OpF.cons tab rfl rfl ⟨Opens.slice (enc := encV) tab rfl rfl (by decide) (fun _ => rfl) (opVec w)⟩ OpF.nil)))) (by kernel_rfl)
  intro H; exact h.to encAsked (fun x => SlV.Good w encV (fun _ => True) x.2.2.1) (fun x => (x.1, x.2.1, x.2.2.1, x.2.2.2.1)) (fun x _ => rfl) (fun x g => g.2.2.1)
theorem rsRd {w : World} {s : SlV RunT} (g : SlV.Good w encRun (goodRun w) s) : RdRs [Old w] s.xs := ⟨fun v hv => SlV.Good.lies (g.each v hv).1 (fun _ => rfl), fun v hv => SlV.Good.lies (enc := Go.Sl.encS) (g.each v hv).2 (fun _ => rfl)⟩
theorem rsL {w : World} {s : SlV RunT} (g : SlV.Good w encRun (goodRun w) s) : s.xs.length ≤ 9223372036854775807 := by have h1 := g.le; have h2 := g.cap; simp only [maxLen] at h2; omega
set_option maxRecDepth 100000 in
theorem lifted (os : Os) (started : os.Started) (H : Type) (enc : TypeId × Value → H) :
    ReturnsInHanded {} Try.checked os 5 .any (Rows.fillRoomSpec.pre6 enc Try.prog Try.f5 Rows.fillRoomRow.domain false) (Rows.fillRoomSpec.post enc Try.prog Try.f5 false true false false) := by
  refine returnsInHanded_of_change (C := Try.checked) own started (by kernel_rfl) Try.func5
    (ChangeSpec.witness6 (enc := enc) (C := Try.checked) false ⟨#[], #[.agg #[.int .i64 0, .int .i64 0, .slice none 0 0, .slice none 0 0], .slice none 0 0, .slice none 0 0], []⟩ 8 (by kernel_rfl) (by kernel_rfl) (by kernel_rfl) (by kernel_rfl)) ?_
  intro W base args ds gs before hval0 hW hcnd _
  have hval : ∀ (j : Nat) t v, Try.f5.params[j]? = some t → args[j]? = some v → Value.okWide Try.prog W .any base t v := hval0
  have hW' := hW
  obtain ⟨p, q, hA0, hV, rfl, hfz, hnd⟩ := hW
  have hA : DataW.TrodAll enc Try.prog W 0 (fun _ => true) true Try.f5.params.toList args.toList ds p := hA0
  rw [Try.params5] at hA hval
  obtain ⟨v0, vs0, d0, ds0, p0, q0, hargs, rfl, rfl, h0, r0⟩ := trodAll_cons hA
  obtain ⟨v1, vs1, d1, ds1, p1, q1, rfl, rfl, rfl, h1, r1⟩ := trodAll_cons r0
  obtain ⟨v2, vs2, d2, ds2, p2, q2, rfl, rfl, rfl, h2, r2⟩ := trodAll_cons r1
  obtain ⟨rfl, rfl, rfl⟩ := trodAll_nil r2
  obtain rfl : args = #[v0, v1, v2] := by cases args; simp_all
  obtain ⟨rfl, rfl⟩ := trodVars_none hV
  have lt0 : ∀ x ∈ p0, x.block < W.heap.size := by obtain ⟨m, hm⟩ := h0; exact DataW.trod_lt m _ _ _ hm
  have lt1 : ∀ x ∈ p1, x.block < W.heap.size := by obtain ⟨m, hm⟩ := h1; exact DataW.trod_lt m _ _ _ hm
  have lt2 : ∀ x ∈ p2, x.block < W.heap.size := by obtain ⟨m, hm⟩ := h2; exact DataW.trod_lt m _ _ _ hm
  obtain ⟨x0, rfl, g0⟩ := openN tab rfl (hval 0 _ v0 rfl rfl) (opAsked W) h0
  obtain ⟨x1, rfl, g1⟩ := open1 tab (g := SlV.val) (fun _ => rfl) rfl (hval 1 _ v1 rfl rfl) (Opens.slice (enc := encRun) tab rfl rfl (by decide) (fun _ => rfl) (opRun W)) h1
  obtain ⟨x2, rfl, g2⟩ := open1 tab (g := SlV.val) (fun _ => rfl) rfl (hval 2 _ v2 rfl rfl) (Opens.slice (enc := encSlot) tab rfl rfl (by decide) (fun _ => rfl) (opSlot W)) h2
  clear hA0 hval0
  refine (law_walk (Room_ct [Old W] x0.1 x0.2.1 x0.2.2.1.a x0.2.2.2.a x1.a x2.a x0.2.2.1.cap x0.2.2.2.cap x1.cap x2.cap x0.2.2.2.xs.length x0.2.2.1.xs x1.xs x2.xs (SlV.Good.lies g0 (fun _ => rfl)) (SlV.Good.lies g1 (fun _ => rfl)) (rsRd g1) (SlV.Good.lies g2 (fun _ => rfl)) (rsL g1))).mono fun e W' ⟨he, bel⟩ => ?_
  subst he
  exact ⟨_, rfl, _, _, _, [], _, [], hW', trodAll_mk1 (shut_bool Try.underlying4 _), (trodAll_cons_mk (Below.trod laidOut (by kernel_rfl) (of_decide_eq_true (by kernel_rfl)) h0 bel lt0) (trodAll_cons_mk (Below.trod laidOut (by kernel_rfl) (of_decide_eq_true (by kernel_rfl)) h1 bel lt1) (trodAll_cons_mk (Below.trod laidOut (by kernel_rfl) (of_decide_eq_true (by kernel_rfl)) h2 bel lt2) trodAll_mk0))), rfl, bel.frame _, fun h => by cases h⟩

theorem fillRoom : Rows.FillRoomSaid :=
  OpenClaim.holds_of_wide 5 Try.f5 rfl rfl rfl rfl rfl rfl rfl ⟨rfl, rfl, rfl, rfl, rfl⟩ rfl rfl rfl rfl rfl (by kernel_rfl) Try.func5 (by kernel_rfl)
    (of_decide_eq_true (by kernel_rfl)) (by unfold Func.isWrapper; first | (rw [if_pos (by decide +kernel)]; kernel_rfl) | (rw [if_neg (by decide +kernel)]; exact ⟨rfl, rfl⟩))
    (fun os started H enc _ => lifted os started H enc)
#print axioms fillRoom
end Go.Proofs.Ytchaijafpmofdaa
