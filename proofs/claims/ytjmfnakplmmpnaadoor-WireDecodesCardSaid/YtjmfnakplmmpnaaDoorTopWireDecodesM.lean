import Derived.Test.YtjmfnakplmmpnaaDoorXBD
import Derived.Test.YtjmfnakplmmpnaaDoorTie
import Derived.Test.YtjmfnakplmmpnaaDoorCards
import Derived.SevenTiedAt
import Derived.Test.YtjmfnakplmmpnaaDoorRows
/- WireDecodes: all bytes are told to be a record's, and which one's, or are refused: for all bytes. -/
namespace Go.Proofs.YtjmfnakplmmpnaaDoor
open Go.Sl
open Go.ChangeShapes Go.WideShapes Go.ChangeAt Go.RowKit
set_option linter.unusedVariables false
theorem own : ownKnob Tryd.prog.godebug = none := by kernel_rfl
theorem laidOut : laidOutB Tryd.prog = true := by kernel_rfl
theorem SlV.Good.lies {α : Type} {w : World} {enc : α → List Value} {good : α → Prop} {s : SlV α} {sz : Nat} (g : SlV.Good w enc good s) (he : ∀ x, (enc x).length = sz) : RdH [Old w] s.a sz enc s.xs := by
  rcases g.at' with h | ⟨b, o, e, h⟩
  · rw [h]; exact .nil
  · rw [e]
    refine .lies ⟨fun i x hx => ⟨fun j v hj => Cell.old ?_⟩⟩
    have hlt := (List.getElem?_eq_some_iff.1 hj).1
    rw [he] at hlt
    rw [Nat.add_assoc]
    exact h _ v (by rw [flat_get he hx hlt]; exact hj)
structure OpF (P : Program) (w : World) (fs : List Field) (off : Nat) {α : Type} (enc : α → List Value) (good : α → Prop) : Prop where
  h : OpensF P w fs off enc good
structure Op1 (P : Program) (w : World) (t : TypeId) {α : Type} (enc : α → List Value) (good : α → Prop) : Prop where
  h : Opens P w t enc good
theorem OpF.nil {P : Program} {w : World} {off : Nat} : OpF P w [] off (fun _ : Unit => []) (fun _ => True) := ⟨OpensF.nil⟩
theorem OpF.cons {P : Program} (Γ : Tab P) {w : World} {f : Field} {fs : List Field} {off sz by' : Nat} {z : Value} {α β : Type} {enc : α → List Value} {good : α → Prop} {enc' : β → List Value} {good' : β → Prop} (hi : Γ.inf f.type = some (z, sz, by')) (hoff : f.offset = off) (ho : Op1 P w f.type enc good) (hr : OpF P w fs (off + sz) enc' good') :
    OpF P w (f :: fs) off (fun x : α × β => enc x.1 ++ enc' x.2) (fun x => good x.1 ∧ good' x.2) := ⟨OpensF.cons Γ hi hoff ho.h hr.h⟩
theorem Op1.struct {P : Program} (Γ : Tab P) {w : World} {t : TypeId} {fs : Array Field} {z : Value} {sz by' : Nat} {α : Type} {enc : α → List Value} {good : α → Prop} (hu : Γ.und t = some (.struct fs)) (hi : Γ.inf t = some (z, sz, by')) (ho : OpF P w fs.toList 0 enc good) (hsum : (fs.toList.map (fun f => P.cellsOf f.type)).sum = sz) :
    Op1 P w t enc good := ⟨Opens.struct Γ hu hi ho.h hsum⟩
theorem Op1.to {P : Program} {w : World} {t : TypeId} {α β : Type} {enc : α → List Value} {good : α → Prop} (ho : Op1 P w t enc good) (enc' : β → List Value) (good' : β → Prop) (f : α → β) (he : ∀ x, good x → enc x = enc' (f x)) (hg : ∀ x, good x → good' (f x)) : Opens P w t enc' good' := Opens.map f he hg ho.h
theorem reach47 {n : Nat} (h : n ≤ reachBytes) : n ≤ 140737488355328 := Nat.le_trans h (by decide)
set_option maxRecDepth 100000 in
theorem lifted (os : Os) (started : os.Started) (H : Type) (enc : TypeId × Value → H) :
    ReturnsInHanded {} Tryd.checked os 8 .any (fun w args => (Rows.wireDecodesSpec.pre enc Tryd.prog Tryd.f8 Rows.wireDecodesRow.domain false w args ∧ laidMet Tryd.prog [("bytes.ErrTooLarge", Rows.laid_bytes_ErrTooLarge)] w) ∧ sizedMet enc Tryd.prog Tryd.f8 (OpenSpec.ofChange Rows.wireDecodesSpec) false w args) (Rows.wireDecodesSpec.post enc Tryd.prog Tryd.f8 false true false false) := by
  refine returnsInHanded_of_change_and (C := Tryd.checked) (X := fun w _ => laidMet Tryd.prog [("bytes.ErrTooLarge", Rows.laid_bytes_ErrTooLarge)] w) (fun _ _ _ hh h => h.of_heap hh) own started (by kernel_rfl) Tryd.func8
    (ChangeSpec.witness_at (enc := enc) (C := Tryd.checked) (os := os) (X := fun w _ => laidMet Tryd.prog [("bytes.ErrTooLarge", Rows.laid_bytes_ErrTooLarge)] w) false (laidWorld os) #[.slice none 0 0] 8 rfl (by kernel_rfl) (by kernel_rfl) (by kernel_rfl) (by kernel_rfl) (by kernel_rfl) (laidWorld_met os _)) ?_
  intro W base args ds gs before hval0 hW hcnd hsz0 _ _
  have hval : ∀ (j : Nat) t v, Tryd.f8.params[j]? = some t → args[j]? = some v → Value.okWide Tryd.prog W .any base t v := hval0
  have hW' := hW
  obtain ⟨p, q, hA0, hV, rfl, hfz, hnd⟩ := hW
  have hA : DataW.TrodAll enc Tryd.prog W 0 (fun _ => true) true Tryd.f8.params.toList args.toList ds p := hA0
  rw [Tryd.params8] at hA hval
  obtain ⟨v0, vs0, d0, ds0, p0, q0, hargs, rfl, rfl, h0, r0⟩ := trodAll_cons hA
  obtain ⟨rfl, rfl, rfl⟩ := trodAll_nil r0
  obtain rfl : args = #[v0] := by cases args; simp_all
  obtain ⟨rfl, rfl⟩ := trodVars_none hV
  have lt0 : ∀ x ∈ p0, x.block < W.heap.size := by obtain ⟨m, hm⟩ := h0; exact DataW.trod_lt m _ _ _ hm
  have sz0 : small (d0.weights Tryd.prog 41) := fun n hn => by
    have h := List.all_eq_true.1 hsz0 n (DataW.weights_mem_each (j := 0) (t := 41) (d := d0) (by show (Tryd.f8.params.toList ++ _)[0]? = some _; rw [show Tryd.f8.params = #[41] from Tryd.params8]; rfl) rfl n hn)
    simpa using h
  obtain ⟨x0, rfl, g0⟩ := open1Z tab (g := SlV.val) (fun _ => rfl) rfl (hval 0 _ v0 rfl rfl) (OpensZ.bytes (enc := encU) tab rfl rfl (by kernel_rfl) (fun _ => rfl) (Opens.byte tab rfl)) h0 sz0
  clear hA0 hval0
  refine (law_walk (Decodes_ct [Old W] x0.a x0.cap x0.xs ⟨SlV.Good.lies g0.1 (fun _ => rfl), g0.1.le, g0.1.cap, reach47 g0.2⟩)).mono fun e W' ⟨he, bel⟩ => ?_
  subst he
  exact ⟨_, rfl, _, _, _, [], _, [], hW', trodAll_mk1 (shut_bool Tryd.underlying4 _), (trodAll_cons_mk (Below.trod laidOut (by kernel_rfl) (of_decide_eq_true (by kernel_rfl)) h0 bel lt0) trodAll_mk0), rfl, bel.frame _, fun h => by cases h⟩
theorem wireDecodesRow : Rows.WireDecodesSaid :=
  OpenClaim.holds_of_wide 8 Tryd.f8 rfl rfl rfl rfl rfl rfl rfl ⟨rfl, rfl, rfl, rfl, rfl⟩ rfl rfl rfl rfl rfl (by kernel_rfl) Tryd.func8 (by kernel_rfl)
    (of_decide_eq_true (by kernel_rfl)) (by unfold Func.isWrapper; first | (rw [if_pos (by decide +kernel)]; kernel_rfl) | (rw [if_neg (by decide +kernel)]; exact ⟨rfl, rfl⟩))
    (fun os started H enc _ => lifted os started H enc)
theorem wireDecodes : Rows.WireDecodesCardSaid :=
  Claim7.holds_tied_plain_at .later [] [.sentinel] true (true, "ca33eb3616e0f1ad22defeb518e0be174bd32f8baa8a167ea6fb788a90d058ad") true
    wireDecodesRow (fun _ h => by cases h) (by kernel_rfl) (fun _ h => by cases h) wireDecodes_row_tie rfl ⟨rfl, rfl⟩ (by kernel_rfl) rfl
    (fun f fn hf hfn => by
      obtain rfl : f = 8 := Option.some.inj ((show Tryd.prog.funcNamed "drover/droverlaw04.WireDecodes" = some 8 by kernel_rfl).symm.trans hf) |>.symm
      obtain rfl : fn = Tryd.f8 := (Option.some.inj (Tryd.func8.symm.trans hfn)).symm
      exact ⟨by kernel_rfl, fun j t ht => by
        rw [Tryd.params8] at ht
        have hm : t ∈ [41] := by simpa using Array.mem_of_getElem? ht
        have hall : ([41].all fun u => !Tryd.prog.wantsStandIn u) = true := by kernel_rfl
        exact (show Tryd.prog.wantsStandIn t = false by simpa using List.all_eq_true.1 hall t hm)⟩)
    (by kernel_rfl)
#print axioms wireDecodes
end Go.Proofs.YtjmfnakplmmpnaaDoor
