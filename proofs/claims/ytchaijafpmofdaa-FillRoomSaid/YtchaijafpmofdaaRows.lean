/-
  No cell of these rows narrows 'for every input' (looked for: loops, veiled, ifaces, maps, wideKeys, modest, calm, conditions, laid).
  DERIVED. THE GIVEN ROWS OF THIS SEAT. 3 by the template 'for every input the law returns true; each argument reads behind the call as it read before'; 0 by the template 'total and deterministic' (their statements: YtchaijafpmofdaaTotals.lean).
  GIVEN WITH THE SEED: the statements are not yours to turn. If you find one false, say at which input.
  Laid BY PROGRAM, IN A SANDBOX (cutbox-rows.mjs): the forced cells as the released guide's own fill.sh prints them over the translation 57ad9677da6d164a… (all of the seat's roots in one cut). By AI agents, Wed Nov 11 2026. No macro, syntax, notation, axiom, sorry.
-/
import Derived.Test.YtchaijafpmofdaaChecked
import GoSem.Claim
import GoSem.ClaimJoined
import GoSem.ClaimMapViews
import Derived.JoinedTies
import Derived.KernelRfl
namespace Go.Proofs.Ytchaijafpmofdaa
/- THE CELL 'sum', in the pinned program and in every row, IS THE sha256 OF THE DUMP (.gsa) THAT YtchaijafpmofdaaProg.lean LOADS. Nothing in Lean hashes anything: it is a label: what it is worth is what the hold of that sum in a sandbox is worth. -/
noncomputable def Try.pinned : Pinned := { name := "ytchaijafpmofdaa", sum := "57ad9677da6d164a4ad3b27d2d2c4ecc6420f25278d22bc0df9a321487ae6758", checked := Try.checked }
namespace Rows
def none {H : Type} : Left H := { results := [], args := [] }

/-- 'droverlaw18.FillStarts': WHATEVER THE INPUT: true; the input reads as it did. -/
def fillStartsSpec : ChangeSpec := { name := "fillStarts", fn := fun _ => fun
  | [d1, d2, d3] => { results := [.lit (.bool true)], args := [d1, d2, d3] }
  | _ => none }
def fillStartsRow : OpenClaim := { program := "ytchaijafpmofdaa", sum := "57ad9677da6d164a4ad3b27d2d2c4ecc6420f25278d22bc0df9a321487ae6758", func := "drover/droverlaw18.FillStarts", spec := "fillStarts", inPlace := ["slices.overlaps[drover/profile.Step]"], unfollowed := true, recurses := true, apart := false }
def FillStartsSaid : Prop := fillStartsRow.holds Try.pinned (OpenSpec.ofChange fillStartsSpec)

/-- ITS FALSE NEIGHBOUR: 'it returns false'. Refute it at one input. -/
def fillStartsWrong : ChangeSpec := { name := "fillStarts", fn := fun _ => fun
  | [d1, d2, d3] => { results := [.lit (.bool false)], args := [d1, d2, d3] }
  | _ => none }
def FillStartsWrongFalsely : Prop := fillStartsRow.holds Try.pinned (OpenSpec.ofChange fillStartsWrong)

/-- 'droverlaw18.FillNow': WHATEVER THE INPUT: true; the input reads as it did. -/
def fillNowSpec : ChangeSpec := { name := "fillNow", fn := fun _ => fun
  | [d1, d2, d3] => { results := [.lit (.bool true)], args := [d1, d2, d3] }
  | _ => none }
def fillNowRow : OpenClaim := { program := "ytchaijafpmofdaa", sum := "57ad9677da6d164a4ad3b27d2d2c4ecc6420f25278d22bc0df9a321487ae6758", func := "drover/droverlaw18.FillNow", spec := "fillNow", inPlace := ["slices.overlaps[drover/profile.Step]"], unfollowed := true, recurses := true, apart := false }
def FillNowSaid : Prop := fillNowRow.holds Try.pinned (OpenSpec.ofChange fillNowSpec)

/-- ITS FALSE NEIGHBOUR: 'it returns false'. Refute it at one input. -/
def fillNowWrong : ChangeSpec := { name := "fillNow", fn := fun _ => fun
  | [d1, d2, d3] => { results := [.lit (.bool false)], args := [d1, d2, d3] }
  | _ => none }
def FillNowWrongFalsely : Prop := fillNowRow.holds Try.pinned (OpenSpec.ofChange fillNowWrong)

/-- 'droverlaw18.FillRoom': WHATEVER THE INPUT: true; the input reads as it did. -/
def fillRoomSpec : ChangeSpec := { name := "fillRoom", fn := fun _ => fun
  | [d1, d2, d3] => { results := [.lit (.bool true)], args := [d1, d2, d3] }
  | _ => none }
def fillRoomRow : OpenClaim := { program := "ytchaijafpmofdaa", sum := "57ad9677da6d164a4ad3b27d2d2c4ecc6420f25278d22bc0df9a321487ae6758", func := "drover/droverlaw18.FillRoom", spec := "fillRoom", inPlace := ["slices.overlaps[drover/profile.Step]"], unfollowed := true, recurses := true, apart := false }
def FillRoomSaid : Prop := fillRoomRow.holds Try.pinned (OpenSpec.ofChange fillRoomSpec)

/-- ITS FALSE NEIGHBOUR: 'it returns false'. Refute it at one input. -/
def fillRoomWrong : ChangeSpec := { name := "fillRoom", fn := fun _ => fun
  | [d1, d2, d3] => { results := [.lit (.bool false)], args := [d1, d2, d3] }
  | _ => none }
def FillRoomWrongFalsely : Prop := fillRoomRow.holds Try.pinned (OpenSpec.ofChange fillRoomWrong)

/- THE SECOND FORM. 'bulk': how many values and letters a reading holds, each counted each time it is reached (what is shared counts as often as it is met; a slice's spare places count too). A statement '..UptoSaid' is the law's where the arguments, and the package variables that the reading takes, are together of bulk at most 1048576: NARROWER than '..Said'. Prove '..Said' where nothing that the law and all that it calls make is longer than what came in: it says more and counts as full. Else prove '..UptoSaid'. A law counts once. -/
mutual
def uptoBulk {H : Type} : DataW H → Nat
  | .lit (.string bytes) => bytes.length + 1
  | .lit _ => 1
  | .nil => 1
  | .ptr d => uptoBulk d + 1
  | .slice elems spare => uptoBulkAll elems + uptoBulkAll spare + 1
  | .agg parts => uptoBulkAll parts + 1
  | .iface _ d => uptoBulk d + 1
  | .map entries => uptoBulkEntries entries + 1
  | .held _ => 1
def uptoBulkAll {H : Type} : List (DataW H) → Nat
  | [] => 0
  | d :: r => uptoBulk d + uptoBulkAll r
def uptoBulkEntries {H : Type} : List (Lit × DataW H) → Nat
  | [] => 0
  | x :: r => uptoBulkEntry x + uptoBulkEntries r
def uptoBulkEntry {H : Type} : Lit × DataW H → Nat
  | (.string bytes, d) => bytes.length + uptoBulk d + 1
  | (_, d) => uptoBulk d + 1
 end
def uptoSmall : (H : Type) → List (DataW H) → Bool := fun _ ds => decide (uptoBulkAll ds ≤ 1048576)
def OpenSpec.upto (s : _root_.Go.ChangeSpec) : _root_.Go.OpenSpec := { _root_.Go.OpenSpec.ofChange s with cond := some uptoSmall }

/-- 'droverlaw18.FillStarts', WHERE WHAT IT READS IS OF BULK AT MOST 1048576: true; the input reads as it did. -/
def fillStartsUptoRow : OpenClaim := { program := "ytchaijafpmofdaa", sum := "57ad9677da6d164a4ad3b27d2d2c4ecc6420f25278d22bc0df9a321487ae6758", func := "drover/droverlaw18.FillStarts", spec := "fillStarts", inPlace := ["slices.overlaps[drover/profile.Step]"], unfollowed := true, recurses := true, apart := false, narrowed := true }
def FillStartsUptoSaid : Prop := fillStartsUptoRow.holds Try.pinned (OpenSpec.upto fillStartsSpec)

/-- 'droverlaw18.FillNow', WHERE WHAT IT READS IS OF BULK AT MOST 1048576: true; the input reads as it did. -/
def fillNowUptoRow : OpenClaim := { program := "ytchaijafpmofdaa", sum := "57ad9677da6d164a4ad3b27d2d2c4ecc6420f25278d22bc0df9a321487ae6758", func := "drover/droverlaw18.FillNow", spec := "fillNow", inPlace := ["slices.overlaps[drover/profile.Step]"], unfollowed := true, recurses := true, apart := false, narrowed := true }
def FillNowUptoSaid : Prop := fillNowUptoRow.holds Try.pinned (OpenSpec.upto fillNowSpec)

/-- 'droverlaw18.FillRoom', WHERE WHAT IT READS IS OF BULK AT MOST 1048576: true; the input reads as it did. -/
def fillRoomUptoRow : OpenClaim := { program := "ytchaijafpmofdaa", sum := "57ad9677da6d164a4ad3b27d2d2c4ecc6420f25278d22bc0df9a321487ae6758", func := "drover/droverlaw18.FillRoom", spec := "fillRoom", inPlace := ["slices.overlaps[drover/profile.Step]"], unfollowed := true, recurses := true, apart := false, narrowed := true }
def FillRoomUptoSaid : Prop := fillRoomUptoRow.holds Try.pinned (OpenSpec.upto fillRoomSpec)

end Rows
end Go.Proofs.Ytchaijafpmofdaa
