import Derived.Test.YtjmfnakplmmpnaaDoorYBC
import Derived.Test.YtjmfnakplmmpnaaDoorTie
import Derived.Test.YtjmfnakplmmpnaaDoorCards
import Derived.SevenTiedAt
import Derived.Test.YtjmfnakplmmpnaaDoorRows
/- WireBack: what is encoded is decoded to what it was, and what is decoded is encoded to its bytes: for all plain records and all bytes. -/
namespace Go.Proofs.YtjmfnakplmmpnaaDoor
open Go.Sl
open Go.ChangeShapes Go.WideShapes Go.ChangeAt Go.RowKit
set_option linter.unusedVariables false
theorem own : ownKnob Tryd.prog.godebug = none := by kernel_rfl
theorem laidOut : laidOutB Tryd.prog = true := by kernel_rfl
theorem SlV.Good.lies {α : Type} {w : World} {enc : α → List Value} {good : α → Prop} {s : SlV α} {sz : Nat} (g : SlV.Good w enc good s) (he : ∀ x, (enc x).length = sz) : RdH [Old w] s.a sz enc s.xs := by
  rcases g.at' with h | ⟨b, o, e, h⟩
  · rw [h]; exact .nil
  · rw [e]
    refine .lies ⟨fun i x hx => ⟨fun j v hj => Cell.old ?_⟩⟩
    have hlt := (List.getElem?_eq_some_iff.1 hj).1
    rw [he] at hlt
    rw [Nat.add_assoc]
    exact h _ v (by rw [flat_get he hx hlt]; exact hj)
structure OpF (P : Program) (w : World) (fs : List Field) (off : Nat) {α : Type} (enc : α → List Value) (good : α → Prop) : Prop where
  h : OpensF P w fs off enc good
structure Op1 (P : Program) (w : World) (t : TypeId) {α : Type} (enc : α → List Value) (good : α → Prop) : Prop where
  h : Opens P w t enc good
theorem OpF.nil {P : Program} {w : World} {off : Nat} : OpF P w [] off (fun _ : Unit => []) (fun _ => True) := ⟨OpensF.nil⟩
theorem OpF.cons {P : Program} (Γ : Tab P) {w : World} {f : Field} {fs : List Field} {off sz by' : Nat} {z : Value} {α β : Type} {enc : α → List Value} {good : α → Prop} {enc' : β → List Value} {good' : β → Prop} (hi : Γ.inf f.type = some (z, sz, by')) (hoff : f.offset = off) (ho : Op1 P w f.type enc good) (hr : OpF P w fs (off + sz) enc' good') :
    OpF P w (f :: fs) off (fun x : α × β => enc x.1 ++ enc' x.2) (fun x => good x.1 ∧ good' x.2) := ⟨OpensF.cons Γ hi hoff ho.h hr.h⟩
theorem Op1.struct {P : Program} (Γ : Tab P) {w : World} {t : TypeId} {fs : Array Field} {z : Value} {sz by' : Nat} {α : Type} {enc : α → List Value} {good : α → Prop} (hu : Γ.und t = some (.struct fs)) (hi : Γ.inf t = some (z, sz, by')) (ho : OpF P w fs.toList 0 enc good) (hsum : (fs.toList.map (fun f => P.cellsOf f.type)).sum = sz) :
    Op1 P w t enc good := ⟨Opens.struct Γ hu hi ho.h hsum⟩
theorem Op1.to {P : Program} {w : World} {t : TypeId} {α β : Type} {enc : α → List Value} {good : α → Prop} (ho : Op1 P w t enc good) (enc' : β → List Value) (good' : β → Prop) (f : α → β) (he : ∀ x, good x → enc x = enc' (f x)) (hg : ∀ x, good x → good' (f x)) : Opens P w t enc' good' := Opens.map f he hg ho.h
theorem opVec (w : World) : Opens Tryd.prog w 23 encV4 (fun _ => True) :=
  Opens.map (fun x => match x with | ⟨[a, b, c, d], _⟩ => (a, b, c, d) | _ => (0, 0, 0, 0)) (fun x _ => by
    obtain ⟨xs, hx⟩ := x
    match xs, hx with
    | [a, b, c, d], _ => rfl) (fun _ _ => trivial) (Opens.arr tab (n := 4) (sz := 1) rfl rfl rfl rfl (fun _ => rfl) (Opens.int tab rfl))
structure GJ (w : World) (j : JV) : Prop where
  par : SlV.Good w Go.Proofs.YtjmfnakplmmpnaaDoor.encI (fun n => (Lit.int .i64 n).wf = true) j.par
  tasks : SlV.Good w encV4 (fun _ => True) j.tasks
  nodes : SlV.Good w encW (fun s => s.size ≤ reachBytes) j.nodes
  don : SlV.Good w encW (fun s => s.size ≤ reachBytes) j.don
  ten : j.tenant.size ≤ reachBytes
theorem opJob (w : World) : OpZ Tryd.prog w 30 encJ (GJ w) := by
  have h := OpZ.struct (P := Tryd.prog) (w := w) (t := 30) tab rfl rfl (OpFZ.cons tab rfl rfl ⟨Opens.z (Opens.int tab rfl)⟩ (OpFZ.cons tab rfl rfl ⟨OpensZ.str tab rfl⟩ (OpFZ.cons tab rfl rfl ⟨Opens.z (Opens.int tab rfl)⟩ (OpFZ.cons tab rfl rfl ⟨Opens.z (Opens.int tab rfl)⟩ (OpFZ.cons tab rfl rfl ⟨OpensZ.slice (enc := Go.Proofs.YtjmfnakplmmpnaaDoor.encI) tab rfl rfl (by decide) (fun _ => rfl) (Opens.z (Opens.int tab rfl))⟩ (OpFZ.cons tab rfl rfl ⟨OpensZ.slice (enc := encV4) tab rfl rfl (by decide) (fun _ => rfl) (Opens.z (opVec w))⟩ (OpFZ.cons tab rfl rfl ⟨Opens.z (Opens.int tab rfl)⟩ (OpFZ.cons tab rfl rfl ⟨Opens.z (Opens.int tab rfl)⟩ (OpFZ.cons tab rfl rfl ⟨OpensZ.slice (enc := encW) tab rfl rfl (by decide) (fun _ => rfl) (OpensZ.str tab rfl)⟩ (OpFZ.cons tab rfl rfl ⟨Opens.z (Opens.int tab rfl)⟩ (OpFZ.cons tab rfl rfl ⟨OpensZ.slice (enc := encW) tab rfl rfl (by decide) (fun _ => rfl) (OpensZ.str tab rfl)⟩ OpFZ.nil))))))))))) (by kernel_rfl)
  exact h.to encJ (GJ w) (fun x => ⟨x.1, x.2.1, x.2.2.1, x.2.2.2.1, x.2.2.2.2.1, x.2.2.2.2.2.1, x.2.2.2.2.2.2.1, x.2.2.2.2.2.2.2.1, x.2.2.2.2.2.2.2.2.1, x.2.2.2.2.2.2.2.2.2.1, x.2.2.2.2.2.2.2.2.2.2.1⟩) (fun x _ => rfl) (fun x g => ⟨g.2.2.2.2.1, g.2.2.2.2.2.1, g.2.2.2.2.2.2.2.2.1, g.2.2.2.2.2.2.2.2.2.2.1, g.2.1⟩)
abbrev TV := ByteArray × Int × V4
theorem opTen (w : World) : OpZ Tryd.prog w 25 (fun x : TV => Value.string x.1 :: .int .i64 x.2.1 :: encV4 x.2.2) (fun x => x.1.size ≤ reachBytes) := by
  have h := OpZ.struct (P := Tryd.prog) (w := w) (t := 25) tab rfl rfl (OpFZ.cons tab rfl rfl ⟨OpensZ.str tab rfl⟩ (OpFZ.cons tab rfl rfl ⟨Opens.z (Opens.int tab rfl)⟩ (OpFZ.cons tab rfl rfl ⟨Opens.z (opVec w)⟩ OpFZ.nil))) (by kernel_rfl)
  exact h.to (fun x : TV => Value.string x.1 :: .int .i64 x.2.1 :: encV4 x.2.2) (fun x => x.1.size ≤ reachBytes) (fun x => (x.1, x.2.1, x.2.2.1)) (fun x _ => rfl) (fun x g => g.1)
structure GP (w : World) (p : PV) : Prop where
  job : GJ w p.job
  tname : p.tname.size ≤ reachBytes
  node : p.node.size ≤ reachBytes
  nodes : SlV.Good w encW (fun s => s.size ≤ reachBytes) p.nodes
theorem opPlain (w : World) : OpZ Tryd.prog w 32 encPl (GP w) := by
  have h := OpZ.struct (P := Tryd.prog) (w := w) (t := 32) tab rfl rfl (OpFZ.cons tab rfl rfl ⟨Opens.z (Opens.int tab rfl)⟩ (OpFZ.cons tab rfl rfl (opTen w) (OpFZ.cons tab rfl rfl ⟨OpensZ.str tab rfl⟩ (OpFZ.cons tab rfl rfl ⟨Opens.z (Opens.int tab rfl)⟩ (OpFZ.cons tab rfl rfl ⟨Opens.z (opVec w)⟩ (OpFZ.cons tab rfl rfl (opJob w) (OpFZ.cons tab rfl rfl ⟨Opens.z (Opens.int tab rfl)⟩ (OpFZ.cons tab rfl rfl ⟨OpensZ.slice (enc := encW) tab rfl rfl (by decide) (fun _ => rfl) (OpensZ.str tab rfl)⟩ (OpFZ.cons tab rfl rfl ⟨Opens.z (Opens.int tab rfl)⟩ OpFZ.nil))))))))) (by kernel_rfl)
  exact h.to encPl (GP w) (fun x => ⟨x.1, x.2.1.1, x.2.1.2.1, x.2.1.2.2, x.2.2.1, x.2.2.2.1, x.2.2.2.2.1, x.2.2.2.2.2.1, x.2.2.2.2.2.2.1, x.2.2.2.2.2.2.2.1, x.2.2.2.2.2.2.2.2.1⟩) (fun x _ => rfl) (fun x g => ⟨g.2.2.2.2.2.1, g.2.1, g.2.2.1, g.2.2.2.2.2.2.2.1⟩)
theorem GJ.rd {w : World} {j : JV} (g : GJ w j) : RdJ [Old w] j := ⟨SlV.Good.lies g.par (fun _ => rfl), SlV.Good.lies g.tasks (fun _ => rfl), SlV.Good.lies g.nodes (fun _ => rfl), SlV.Good.lies g.don (fun _ => rfl), Nat.le_trans g.par.le g.par.cap, Nat.le_trans g.tasks.le g.tasks.cap, Nat.le_trans g.nodes.le g.nodes.cap, Nat.le_trans g.don.le g.don.cap⟩
theorem reach47 {n : Nat} (h : n ≤ reachBytes) : n ≤ 140737488355328 := Nat.le_trans h (by decide)
theorem GP.rd {w : World} {p : PV} (g : GP w p) : RdR [Old w] (recOf p) := by
  unfold recOf
  repeat' split
  · exact reach47 g.tname
  · exact reach47 g.node
  · exact reach47 g.node
  · exact reach47 g.node
  · exact ⟨g.job.rd, reach47 g.job.ten⟩
  · trivial
  · exact ⟨SlV.Good.lies g.nodes (fun _ => rfl), Nat.le_trans g.nodes.le g.nodes.cap, fun s hs => reach47 (g.nodes.each s hs)⟩
  · trivial
  · exact reach47 g.node
  · trivial
  · trivial
  · trivial
set_option maxRecDepth 100000 in
theorem lifted (os : Os) (started : os.Started) (H : Type) (enc : TypeId × Value → H) :
    ReturnsInHanded {} Tryd.checked os 9 .any (fun w args => (Rows.wireBackSpec.pre enc Tryd.prog Tryd.f9 Rows.wireBackRow.domain false w args ∧ laidMet Tryd.prog [("bytes.ErrTooLarge", Rows.laid_bytes_ErrTooLarge)] w) ∧ sizedMet enc Tryd.prog Tryd.f9 (OpenSpec.ofChange Rows.wireBackSpec) false w args) (Rows.wireBackSpec.post enc Tryd.prog Tryd.f9 false true false false) := by
  refine returnsInHanded_of_change_and (C := Tryd.checked) (X := fun w _ => laidMet Tryd.prog [("bytes.ErrTooLarge", Rows.laid_bytes_ErrTooLarge)] w) (fun _ _ _ hh h => h.of_heap hh) own started (by kernel_rfl) Tryd.func9
    (ChangeSpec.witness_at (enc := enc) (C := Tryd.checked) (os := os) (X := fun w _ => laidMet Tryd.prog [("bytes.ErrTooLarge", Rows.laid_bytes_ErrTooLarge)] w) false (laidWorld os) #[.agg #[.int .i64 0, .string ⟨#[]⟩, .int .i64 0, .int .i64 0, .int .i64 0, .int .i64 0, .int .i64 0, .string ⟨#[]⟩, .int .i64 0, .int .i64 0, .int .i64 0, .int .i64 0, .int .i64 0, .int .i64 0, .string ⟨#[]⟩, .int .i64 0, .int .i64 0, .slice none 0 0, .slice none 0 0, .int .i64 0, .int .i64 0, .slice none 0 0, .int .i64 0, .slice none 0 0, .int .i64 0, .slice none 0 0, .int .i64 0], .slice none 0 0] 8 rfl (by kernel_rfl) (by kernel_rfl) (by kernel_rfl) (by kernel_rfl) (by kernel_rfl) (laidWorld_met os _)) ?_
  intro W base args ds gs before hval0 hW hcnd hsz0 _ _
  have hval : ∀ (j : Nat) t v, Tryd.f9.params[j]? = some t → args[j]? = some v → Value.okWide Tryd.prog W .any base t v := hval0
  have hW' := hW
  obtain ⟨p, q, hA0, hV, rfl, hfz, hnd⟩ := hW
  have hA : DataW.TrodAll enc Tryd.prog W 0 (fun _ => true) true Tryd.f9.params.toList args.toList ds p := hA0
  rw [Tryd.params9] at hA hval
  obtain ⟨v0, vs0, d0, ds0, p0, q0, hargs, rfl, rfl, h0, r0⟩ := trodAll_cons hA
  obtain ⟨v1, vs1, d1, ds1, p1, q1, rfl, rfl, rfl, h1, r1⟩ := trodAll_cons r0
  obtain ⟨rfl, rfl, rfl⟩ := trodAll_nil r1
  obtain rfl : args = #[v0, v1] := by cases args; simp_all
  obtain ⟨rfl, rfl⟩ := trodVars_none hV
  have lt0 : ∀ x ∈ p0, x.block < W.heap.size := by obtain ⟨m, hm⟩ := h0; exact DataW.trod_lt m _ _ _ hm
  have lt1 : ∀ x ∈ p1, x.block < W.heap.size := by obtain ⟨m, hm⟩ := h1; exact DataW.trod_lt m _ _ _ hm
  have sz0 : small (d0.weights Tryd.prog 32) := fun n hn => by
    have h := List.all_eq_true.1 hsz0 n (DataW.weights_mem_each (j := 0) (t := 32) (d := d0) (by show (Tryd.f9.params.toList ++ _)[0]? = some _; rw [show Tryd.f9.params = #[32, 41] from Tryd.params9]; rfl) rfl n hn)
    simpa using h
  obtain ⟨x0, rfl, g0⟩ := openNZ tab rfl (hval 0 _ v0 rfl rfl) (opPlain W) h0 sz0
  have sz1 : small (d1.weights Tryd.prog 41) := fun n hn => by
    have h := List.all_eq_true.1 hsz0 n (DataW.weights_mem_each (j := 1) (t := 41) (d := d1) (by show (Tryd.f9.params.toList ++ _)[1]? = some _; rw [show Tryd.f9.params = #[32, 41] from Tryd.params9]; rfl) rfl n hn)
    simpa using h
  obtain ⟨x1, rfl, g1⟩ := open1Z tab (g := SlV.val) (fun _ => rfl) rfl (hval 1 _ v1 rfl rfl) (OpensZ.bytes (enc := encU) tab rfl rfl (by kernel_rfl) (fun _ => rfl) (Opens.byte tab rfl)) h1 sz1
  clear hA0 hval0
  refine (law_walk (Back_ct [Old W] x0 (GP.rd g0) x1.a x1.cap x1.xs ⟨SlV.Good.lies g1.1 (fun _ => rfl), g1.1.le, g1.1.cap, reach47 g1.2⟩)).mono fun e W' ⟨he, bel⟩ => ?_
  subst he
  exact ⟨_, rfl, _, _, _, [], _, [], hW', trodAll_mk1 (shut_bool Tryd.underlying4 _), (trodAll_cons_mk (Below.trod laidOut (by kernel_rfl) (of_decide_eq_true (by kernel_rfl)) h0 bel lt0) (trodAll_cons_mk (Below.trod laidOut (by kernel_rfl) (of_decide_eq_true (by kernel_rfl)) h1 bel lt1) trodAll_mk0)), rfl, bel.frame _, fun h => by cases h⟩
theorem wireBackRow : Rows.WireBackSaid :=
  OpenClaim.holds_of_wide 9 Tryd.f9 rfl rfl rfl rfl rfl rfl rfl ⟨rfl, rfl, rfl, rfl, rfl⟩ rfl rfl rfl rfl rfl (by kernel_rfl) Tryd.func9 (by kernel_rfl)
    (of_decide_eq_true (by kernel_rfl)) (by unfold Func.isWrapper; first | (rw [if_pos (by decide +kernel)]; kernel_rfl) | (rw [if_neg (by decide +kernel)]; exact ⟨rfl, rfl⟩))
    (fun os started H enc _ => lifted os started H enc)
theorem wireBack : Rows.WireBackCardSaid :=
  Claim7.holds_tied_plain_at .later [] [.sentinel] true (true, "ca33eb3616e0f1ad22defeb518e0be174bd32f8baa8a167ea6fb788a90d058ad") true
    wireBackRow (fun _ h => by cases h) (by kernel_rfl) (fun _ h => by cases h) wireBack_row_tie rfl ⟨rfl, rfl⟩ (by kernel_rfl) rfl
    (fun f fn hf hfn => by
      obtain rfl : f = 9 := Option.some.inj ((show Tryd.prog.funcNamed "drover/droverlaw04.WireBack" = some 9 by kernel_rfl).symm.trans hf) |>.symm
      obtain rfl : fn = Tryd.f9 := (Option.some.inj (Tryd.func9.symm.trans hfn)).symm
      exact ⟨by kernel_rfl, fun j t ht => by
        rw [Tryd.params9] at ht
        have hm : t ∈ [32, 41] := by simpa using Array.mem_of_getElem? ht
        have hall : ([32, 41].all fun u => !Tryd.prog.wantsStandIn u) = true := by kernel_rfl
        exact (show Tryd.prog.wantsStandIn t = false by simpa using List.all_eq_true.1 hall t hm)⟩)
    (by kernel_rfl)
#print axioms wireBack
end Go.Proofs.YtjmfnakplmmpnaaDoor
