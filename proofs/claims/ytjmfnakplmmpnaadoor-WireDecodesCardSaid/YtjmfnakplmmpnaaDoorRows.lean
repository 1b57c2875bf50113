/-
  NARROWER THAN 'FOR EVERY INPUT', by the rows' own cells (each row's printed sentence says how): WireJobs: laid · WireFrames: laid · WireOpens: laid · WireKeeps: laid · WireEncodes: laid · WireDecodes: laid · WireBack: laid.
  DERIVED. THE GIVEN ROWS OF THIS SEAT. 7 by the template 'for every input the law returns true; each argument reads behind the call as it read before'; 0 by the template 'total and deterministic' (their statements: YtjmfnakplmmpnaaDoorTotals.lean).
  GIVEN WITH THE SEED: the statements are not yours to turn. If you find one false, say at which input.
  Laid BY PROGRAM, IN A SANDBOX (cutbox-rows.mjs): the forced cells as the released guide's own fill.sh prints them over the translation 1dce63e1a1d19c66… (all of the seat's roots in one cut). By AI agents, Wed Nov 11 2026. No macro, syntax, notation, axiom, sorry.
-/
import Derived.Test.YtjmfnakplmmpnaaDoorChecked
import GoSem.Claim
import GoSem.ClaimJoined
import GoSem.ClaimMapViews
import Derived.JoinedTies
import Derived.KernelRfl
namespace Go.Proofs.YtjmfnakplmmpnaaDoor
/- THE CELL 'sum', in the pinned program and in every row, IS THE sha256 OF THE DUMP (.gsa) THAT YtjmfnakplmmpnaaDoorProg.lean LOADS. Nothing in Lean hashes anything: it is a label: what it is worth is what the hold of that sum in a sandbox is worth. -/
noncomputable def Tryd.pinned : Pinned := { name := "ytjmfnakplmmpnaadoor", sum := "1dce63e1a1d19c6603c4e5c1ad6dad72f3327cb5c23f0dd4ca5b0c4270988e43", checked := Tryd.checked }
namespace Rows
def none {H : Type} : Left H := { results := [], args := [] }

/- WHAT THE LISTED PACKAGE-LEVEL VARIABLES READ AS WHEN THE CALL BEGINS. Each datum BY PROGRAM (the guide's laid-datum.mjs) off the statement by which the dump's own 'gosem.cut.vars' lays the variable. In a bare row this is a premise. The card (YtjmfnakplmmpnaaDoorCards.lean) ties it to the program's text. -/
def laid_bytes_ErrTooLarge {H : Type} : DataW H := .iface "*errors.errorString" (.ptr (.agg [.lit (.string [98, 121, 116, 101, 115, 46, 66, 117, 102, 102, 101, 114, 58, 32, 116, 111, 111, 32, 108, 97, 114, 103, 101])]))

/-- 'droverlaw04.WireJobs': WHATEVER THE INPUT: true; the input reads as it did. -/
def wireJobsSpec : ChangeSpec := { name := "wireJobs", fn := fun _ => fun
  | [d] => { results := [.lit (.bool true)], args := [d] }
  | _ => none }
def wireJobsRow : OpenClaim := { program := "ytjmfnakplmmpnaadoor", sum := "1dce63e1a1d19c6603c4e5c1ad6dad72f3327cb5c23f0dd4ca5b0c4270988e43", func := "drover/droverlaw04.WireJobs", spec := "wireJobs", unfollowed := true, recurses := true, named := ["bytes.ErrTooLarge"], apart := false, laid := [("bytes.ErrTooLarge", laid_bytes_ErrTooLarge)] }
def WireJobsSaid : Prop := wireJobsRow.holds Tryd.pinned (OpenSpec.ofChange wireJobsSpec)

/-- ITS FALSE NEIGHBOUR: 'it returns false'. Refute it at one input. -/
def wireJobsWrong : ChangeSpec := { name := "wireJobs", fn := fun _ => fun
  | [d] => { results := [.lit (.bool false)], args := [d] }
  | _ => none }
def WireJobsWrongFalsely : Prop := wireJobsRow.holds Tryd.pinned (OpenSpec.ofChange wireJobsWrong)

/-- 'droverlaw04.WireFrames': WHATEVER THE INPUT: true; the input reads as it did. -/
def wireFramesSpec : ChangeSpec := { name := "wireFrames", fn := fun _ => fun
  | [d] => { results := [.lit (.bool true)], args := [d] }
  | _ => none }
def wireFramesRow : OpenClaim := { program := "ytjmfnakplmmpnaadoor", sum := "1dce63e1a1d19c6603c4e5c1ad6dad72f3327cb5c23f0dd4ca5b0c4270988e43", func := "drover/droverlaw04.WireFrames", spec := "wireFrames", unfollowed := true, recurses := true, named := ["bytes.ErrTooLarge"], apart := false, laid := [("bytes.ErrTooLarge", laid_bytes_ErrTooLarge)] }
def WireFramesSaid : Prop := wireFramesRow.holds Tryd.pinned (OpenSpec.ofChange wireFramesSpec)

/-- ITS FALSE NEIGHBOUR: 'it returns false'. Refute it at one input. -/
def wireFramesWrong : ChangeSpec := { name := "wireFrames", fn := fun _ => fun
  | [d] => { results := [.lit (.bool false)], args := [d] }
  | _ => none }
def WireFramesWrongFalsely : Prop := wireFramesRow.holds Tryd.pinned (OpenSpec.ofChange wireFramesWrong)

/-- 'droverlaw04.WireOpens': WHATEVER THE INPUT: true; the input reads as it did. -/
def wireOpensSpec : ChangeSpec := { name := "wireOpens", fn := fun _ => fun
  | [d1, d2, d3] => { results := [.lit (.bool true)], args := [d1, d2, d3] }
  | _ => none }
def wireOpensRow : OpenClaim := { program := "ytjmfnakplmmpnaadoor", sum := "1dce63e1a1d19c6603c4e5c1ad6dad72f3327cb5c23f0dd4ca5b0c4270988e43", func := "drover/droverlaw04.WireOpens", spec := "wireOpens", unfollowed := true, recurses := true, named := ["bytes.ErrTooLarge"], apart := false, laid := [("bytes.ErrTooLarge", laid_bytes_ErrTooLarge)] }
def WireOpensSaid : Prop := wireOpensRow.holds Tryd.pinned (OpenSpec.ofChange wireOpensSpec)

/-- ITS FALSE NEIGHBOUR: 'it returns false'. Refute it at one input. -/
def wireOpensWrong : ChangeSpec := { name := "wireOpens", fn := fun _ => fun
  | [d1, d2, d3] => { results := [.lit (.bool false)], args := [d1, d2, d3] }
  | _ => none }
def WireOpensWrongFalsely : Prop := wireOpensRow.holds Tryd.pinned (OpenSpec.ofChange wireOpensWrong)

/-- 'droverlaw04.WireKeeps': WHATEVER THE INPUT: true; the input reads as it did. -/
def wireKeepsSpec : ChangeSpec := { name := "wireKeeps", fn := fun _ => fun
  | [d] => { results := [.lit (.bool true)], args := [d] }
  | _ => none }
def wireKeepsRow : OpenClaim := { program := "ytjmfnakplmmpnaadoor", sum := "1dce63e1a1d19c6603c4e5c1ad6dad72f3327cb5c23f0dd4ca5b0c4270988e43", func := "drover/droverlaw04.WireKeeps", spec := "wireKeeps", unfollowed := true, recurses := true, named := ["bytes.ErrTooLarge"], apart := false, laid := [("bytes.ErrTooLarge", laid_bytes_ErrTooLarge)] }
def WireKeepsSaid : Prop := wireKeepsRow.holds Tryd.pinned (OpenSpec.ofChange wireKeepsSpec)

/-- ITS FALSE NEIGHBOUR: 'it returns false'. Refute it at one input. -/
def wireKeepsWrong : ChangeSpec := { name := "wireKeeps", fn := fun _ => fun
  | [d] => { results := [.lit (.bool false)], args := [d] }
  | _ => none }
def WireKeepsWrongFalsely : Prop := wireKeepsRow.holds Tryd.pinned (OpenSpec.ofChange wireKeepsWrong)

/-- 'droverlaw04.WireEncodes': WHATEVER THE INPUT: true; the input reads as it did. -/
def wireEncodesSpec : ChangeSpec := { name := "wireEncodes", fn := fun _ => fun
  | [d] => { results := [.lit (.bool true)], args := [d] }
  | _ => none }
def wireEncodesRow : OpenClaim := { program := "ytjmfnakplmmpnaadoor", sum := "1dce63e1a1d19c6603c4e5c1ad6dad72f3327cb5c23f0dd4ca5b0c4270988e43", func := "drover/droverlaw04.WireEncodes", spec := "wireEncodes", unfollowed := true, recurses := true, named := ["bytes.ErrTooLarge"], apart := false, laid := [("bytes.ErrTooLarge", laid_bytes_ErrTooLarge)] }
def WireEncodesSaid : Prop := wireEncodesRow.holds Tryd.pinned (OpenSpec.ofChange wireEncodesSpec)

/-- ITS FALSE NEIGHBOUR: 'it returns false'. Refute it at one input. -/
def wireEncodesWrong : ChangeSpec := { name := "wireEncodes", fn := fun _ => fun
  | [d] => { results := [.lit (.bool false)], args := [d] }
  | _ => none }
def WireEncodesWrongFalsely : Prop := wireEncodesRow.holds Tryd.pinned (OpenSpec.ofChange wireEncodesWrong)

/-- 'droverlaw04.WireDecodes': WHATEVER THE INPUT: true; the input reads as it did. -/
def wireDecodesSpec : ChangeSpec := { name := "wireDecodes", fn := fun _ => fun
  | [d] => { results := [.lit (.bool true)], args := [d] }
  | _ => none }
def wireDecodesRow : OpenClaim := { program := "ytjmfnakplmmpnaadoor", sum := "1dce63e1a1d19c6603c4e5c1ad6dad72f3327cb5c23f0dd4ca5b0c4270988e43", func := "drover/droverlaw04.WireDecodes", spec := "wireDecodes", unfollowed := true, recurses := true, named := ["bytes.ErrTooLarge"], apart := false, laid := [("bytes.ErrTooLarge", laid_bytes_ErrTooLarge)] }
def WireDecodesSaid : Prop := wireDecodesRow.holds Tryd.pinned (OpenSpec.ofChange wireDecodesSpec)

/-- ITS FALSE NEIGHBOUR: 'it returns false'. Refute it at one input. -/
def wireDecodesWrong : ChangeSpec := { name := "wireDecodes", fn := fun _ => fun
  | [d] => { results := [.lit (.bool false)], args := [d] }
  | _ => none }
def WireDecodesWrongFalsely : Prop := wireDecodesRow.holds Tryd.pinned (OpenSpec.ofChange wireDecodesWrong)

/-- 'droverlaw04.WireBack': WHATEVER THE INPUT: true; the input reads as it did. -/
def wireBackSpec : ChangeSpec := { name := "wireBack", fn := fun _ => fun
  | [d1, d2] => { results := [.lit (.bool true)], args := [d1, d2] }
  | _ => none }
def wireBackRow : OpenClaim := { program := "ytjmfnakplmmpnaadoor", sum := "1dce63e1a1d19c6603c4e5c1ad6dad72f3327cb5c23f0dd4ca5b0c4270988e43", func := "drover/droverlaw04.WireBack", spec := "wireBack", unfollowed := true, recurses := true, named := ["bytes.ErrTooLarge"], apart := false, laid := [("bytes.ErrTooLarge", laid_bytes_ErrTooLarge)] }
def WireBackSaid : Prop := wireBackRow.holds Tryd.pinned (OpenSpec.ofChange wireBackSpec)

/-- ITS FALSE NEIGHBOUR: 'it returns false'. Refute it at one input. -/
def wireBackWrong : ChangeSpec := { name := "wireBack", fn := fun _ => fun
  | [d1, d2] => { results := [.lit (.bool false)], args := [d1, d2] }
  | _ => none }
def WireBackWrongFalsely : Prop := wireBackRow.holds Tryd.pinned (OpenSpec.ofChange wireBackWrong)

/- THE SECOND FORM. 'bulk': how many values and letters a reading holds, each counted each time it is reached (what is shared counts as often as it is met; a slice's spare places count too). A statement '..UptoSaid' is the law's where the arguments, and the package variables that the reading takes, are together of bulk at most 1048576: NARROWER than '..Said'. Prove '..Said' where nothing that the law and all that it calls make is longer than what came in: it says more and counts as full. Else prove '..UptoSaid'. A law counts once. -/
mutual
def uptoBulk {H : Type} : DataW H → Nat
  | .lit (.string bytes) => bytes.length + 1
  | .lit _ => 1
  | .nil => 1
  | .ptr d => uptoBulk d + 1
  | .slice elems spare => uptoBulkAll elems + uptoBulkAll spare + 1
  | .agg parts => uptoBulkAll parts + 1
  | .iface _ d => uptoBulk d + 1
  | .map entries => uptoBulkEntries entries + 1
  | .held _ => 1
def uptoBulkAll {H : Type} : List (DataW H) → Nat
  | [] => 0
  | d :: r => uptoBulk d + uptoBulkAll r
def uptoBulkEntries {H : Type} : List (Lit × DataW H) → Nat
  | [] => 0
  | x :: r => uptoBulkEntry x + uptoBulkEntries r
def uptoBulkEntry {H : Type} : Lit × DataW H → Nat
  | (.string bytes, d) => bytes.length + uptoBulk d + 1
  | (_, d) => uptoBulk d + 1
 end
def uptoSmall : (H : Type) → List (DataW H) → Bool := fun _ ds => decide (uptoBulkAll ds ≤ 1048576)
def OpenSpec.upto (s : _root_.Go.ChangeSpec) : _root_.Go.OpenSpec := { _root_.Go.OpenSpec.ofChange s with cond := some uptoSmall }

/-- 'droverlaw04.WireJobs', WHERE WHAT IT READS IS OF BULK AT MOST 1048576: true; the input reads as it did. -/
def wireJobsUptoRow : OpenClaim := { program := "ytjmfnakplmmpnaadoor", sum := "1dce63e1a1d19c6603c4e5c1ad6dad72f3327cb5c23f0dd4ca5b0c4270988e43", func := "drover/droverlaw04.WireJobs", spec := "wireJobs", unfollowed := true, recurses := true, named := ["bytes.ErrTooLarge"], apart := false, laid := [("bytes.ErrTooLarge", laid_bytes_ErrTooLarge)], narrowed := true }
def WireJobsUptoSaid : Prop := wireJobsUptoRow.holds Tryd.pinned (OpenSpec.upto wireJobsSpec)

/-- 'droverlaw04.WireFrames', WHERE WHAT IT READS IS OF BULK AT MOST 1048576: true; the input reads as it did. -/
def wireFramesUptoRow : OpenClaim := { program := "ytjmfnakplmmpnaadoor", sum := "1dce63e1a1d19c6603c4e5c1ad6dad72f3327cb5c23f0dd4ca5b0c4270988e43", func := "drover/droverlaw04.WireFrames", spec := "wireFrames", unfollowed := true, recurses := true, named := ["bytes.ErrTooLarge"], apart := false, laid := [("bytes.ErrTooLarge", laid_bytes_ErrTooLarge)], narrowed := true }
def WireFramesUptoSaid : Prop := wireFramesUptoRow.holds Tryd.pinned (OpenSpec.upto wireFramesSpec)

/-- 'droverlaw04.WireOpens', WHERE WHAT IT READS IS OF BULK AT MOST 1048576: true; the input reads as it did. -/
def wireOpensUptoRow : OpenClaim := { program := "ytjmfnakplmmpnaadoor", sum := "1dce63e1a1d19c6603c4e5c1ad6dad72f3327cb5c23f0dd4ca5b0c4270988e43", func := "drover/droverlaw04.WireOpens", spec := "wireOpens", unfollowed := true, recurses := true, named := ["bytes.ErrTooLarge"], apart := false, laid := [("bytes.ErrTooLarge", laid_bytes_ErrTooLarge)], narrowed := true }
def WireOpensUptoSaid : Prop := wireOpensUptoRow.holds Tryd.pinned (OpenSpec.upto wireOpensSpec)

/-- 'droverlaw04.WireKeeps', WHERE WHAT IT READS IS OF BULK AT MOST 1048576: true; the input reads as it did. -/
def wireKeepsUptoRow : OpenClaim := { program := "ytjmfnakplmmpnaadoor", sum := "1dce63e1a1d19c6603c4e5c1ad6dad72f3327cb5c23f0dd4ca5b0c4270988e43", func := "drover/droverlaw04.WireKeeps", spec := "wireKeeps", unfollowed := true, recurses := true, named := ["bytes.ErrTooLarge"], apart := false, laid := [("bytes.ErrTooLarge", laid_bytes_ErrTooLarge)], narrowed := true }
def WireKeepsUptoSaid : Prop := wireKeepsUptoRow.holds Tryd.pinned (OpenSpec.upto wireKeepsSpec)

/-- 'droverlaw04.WireEncodes', WHERE WHAT IT READS IS OF BULK AT MOST 1048576: true; the input reads as it did. -/
def wireEncodesUptoRow : OpenClaim := { program := "ytjmfnakplmmpnaadoor", sum := "1dce63e1a1d19c6603c4e5c1ad6dad72f3327cb5c23f0dd4ca5b0c4270988e43", func := "drover/droverlaw04.WireEncodes", spec := "wireEncodes", unfollowed := true, recurses := true, named := ["bytes.ErrTooLarge"], apart := false, laid := [("bytes.ErrTooLarge", laid_bytes_ErrTooLarge)], narrowed := true }
def WireEncodesUptoSaid : Prop := wireEncodesUptoRow.holds Tryd.pinned (OpenSpec.upto wireEncodesSpec)

/-- 'droverlaw04.WireDecodes', WHERE WHAT IT READS IS OF BULK AT MOST 1048576: true; the input reads as it did. -/
def wireDecodesUptoRow : OpenClaim := { program := "ytjmfnakplmmpnaadoor", sum := "1dce63e1a1d19c6603c4e5c1ad6dad72f3327cb5c23f0dd4ca5b0c4270988e43", func := "drover/droverlaw04.WireDecodes", spec := "wireDecodes", unfollowed := true, recurses := true, named := ["bytes.ErrTooLarge"], apart := false, laid := [("bytes.ErrTooLarge", laid_bytes_ErrTooLarge)], narrowed := true }
def WireDecodesUptoSaid : Prop := wireDecodesUptoRow.holds Tryd.pinned (OpenSpec.upto wireDecodesSpec)

/-- 'droverlaw04.WireBack', WHERE WHAT IT READS IS OF BULK AT MOST 1048576: true; the input reads as it did. -/
def wireBackUptoRow : OpenClaim := { program := "ytjmfnakplmmpnaadoor", sum := "1dce63e1a1d19c6603c4e5c1ad6dad72f3327cb5c23f0dd4ca5b0c4270988e43", func := "drover/droverlaw04.WireBack", spec := "wireBack", unfollowed := true, recurses := true, named := ["bytes.ErrTooLarge"], apart := false, laid := [("bytes.ErrTooLarge", laid_bytes_ErrTooLarge)], narrowed := true }
def WireBackUptoSaid : Prop := wireBackUptoRow.holds Tryd.pinned (OpenSpec.upto wireBackSpec)

end Rows
end Go.Proofs.YtjmfnakplmmpnaaDoor
