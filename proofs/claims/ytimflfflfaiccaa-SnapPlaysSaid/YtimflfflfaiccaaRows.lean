/-
  No cell of these rows narrows 'for every input' (looked for: loops, veiled, ifaces, maps, wideKeys, modest, calm, conditions, laid).
  DERIVED. THE GIVEN ROWS OF THIS SEAT. 5 by the template 'for every input the law returns true; each argument reads behind the call as it read before'; 0 by the template 'total and deterministic' (their statements: YtimflfflfaiccaaTotals.lean).
  GIVEN WITH THE SEED: the statements are not yours to turn. If you find one false, say at which input.
  Laid BY PROGRAM, IN A SANDBOX (cutbox-rows.mjs): the forced cells as the released guide's own fill.sh prints them over the translation fdc6fe96718ff868… (all of the seat's roots in one cut). By AI agents, Wed Nov 11 2026. No macro, syntax, notation, axiom, sorry.
-/
import Derived.Test.YtimflfflfaiccaaChecked
import GoSem.Claim
import GoSem.ClaimJoined
import GoSem.ClaimMapViews
import Derived.JoinedTies
import Derived.KernelRfl
namespace Go.Proofs.Ytimflfflfaiccaa
/- THE CELL 'sum', in the pinned program and in every row, IS THE sha256 OF THE DUMP (.gsa) THAT YtimflfflfaiccaaProg.lean LOADS. Nothing in Lean hashes anything: it is a label: what it is worth is what the hold of that sum in a sandbox is worth. -/
noncomputable def Try.pinned : Pinned := { name := "ytimflfflfaiccaa", sum := "fdc6fe96718ff86812543b7ba7789252d033a4716481642a84ba91f0ee42c56a", checked := Try.checked }
namespace Rows
def none {H : Type} : Left H := { results := [], args := [] }

/-- 'droverlaw07.SnapFits': WHATEVER THE INPUT: true; the input reads as it did. -/
def snapFitsSpec : ChangeSpec := { name := "snapFits", fn := fun _ => fun
  | [d1, d2] => { results := [.lit (.bool true)], args := [d1, d2] }
  | _ => none }
def snapFitsRow : OpenClaim := { program := "ytimflfflfaiccaa", sum := "fdc6fe96718ff86812543b7ba7789252d033a4716481642a84ba91f0ee42c56a", func := "drover/droverlaw07.SnapFits", spec := "snapFits", apart := false }
def SnapFitsSaid : Prop := snapFitsRow.holds Try.pinned (OpenSpec.ofChange snapFitsSpec)

/-- ITS FALSE NEIGHBOUR: 'it returns false'. Refute it at one input. -/
def snapFitsWrong : ChangeSpec := { name := "snapFits", fn := fun _ => fun
  | [d1, d2] => { results := [.lit (.bool false)], args := [d1, d2] }
  | _ => none }
def SnapFitsWrongFalsely : Prop := snapFitsRow.holds Try.pinned (OpenSpec.ofChange snapFitsWrong)

/-- 'droverlaw07.SnapNil': WHATEVER THE INPUT: true; the input reads as it did. -/
def snapNilSpec : ChangeSpec := { name := "snapNil", fn := fun _ => fun
  | [d] => { results := [.lit (.bool true)], args := [d] }
  | _ => none }
def snapNilRow : OpenClaim := { program := "ytimflfflfaiccaa", sum := "fdc6fe96718ff86812543b7ba7789252d033a4716481642a84ba91f0ee42c56a", func := "drover/droverlaw07.SnapNil", spec := "snapNil", apart := false }
def SnapNilSaid : Prop := snapNilRow.holds Try.pinned (OpenSpec.ofChange snapNilSpec)

/-- ITS FALSE NEIGHBOUR: 'it returns false'. Refute it at one input. -/
def snapNilWrong : ChangeSpec := { name := "snapNil", fn := fun _ => fun
  | [d] => { results := [.lit (.bool false)], args := [d] }
  | _ => none }
def SnapNilWrongFalsely : Prop := snapNilRow.holds Try.pinned (OpenSpec.ofChange snapNilWrong)

/-- 'droverlaw07.SnapApart': WHATEVER THE INPUT: true; the input reads as it did. -/
def snapApartSpec : ChangeSpec := { name := "snapApart", fn := fun _ => fun
  | [d1, d2] => { results := [.lit (.bool true)], args := [d1, d2] }
  | _ => none }
def snapApartRow : OpenClaim := { program := "ytimflfflfaiccaa", sum := "fdc6fe96718ff86812543b7ba7789252d033a4716481642a84ba91f0ee42c56a", func := "drover/droverlaw07.SnapApart", spec := "snapApart", apart := false }
def SnapApartSaid : Prop := snapApartRow.holds Try.pinned (OpenSpec.ofChange snapApartSpec)

/-- ITS FALSE NEIGHBOUR: 'it returns false'. Refute it at one input. -/
def snapApartWrong : ChangeSpec := { name := "snapApart", fn := fun _ => fun
  | [d1, d2] => { results := [.lit (.bool false)], args := [d1, d2] }
  | _ => none }
def SnapApartWrongFalsely : Prop := snapApartRow.holds Try.pinned (OpenSpec.ofChange snapApartWrong)

/-- 'droverlaw07.SnapPlays': WHATEVER THE INPUT: true; the input reads as it did. -/
def snapPlaysSpec : ChangeSpec := { name := "snapPlays", fn := fun _ => fun
  | [d] => { results := [.lit (.bool true)], args := [d] }
  | _ => none }
def snapPlaysRow : OpenClaim := { program := "ytimflfflfaiccaa", sum := "fdc6fe96718ff86812543b7ba7789252d033a4716481642a84ba91f0ee42c56a", func := "drover/droverlaw07.SnapPlays", spec := "snapPlays", unfollowed := true, recurses := true, apart := false }
def SnapPlaysSaid : Prop := snapPlaysRow.holds Try.pinned (OpenSpec.ofChange snapPlaysSpec)

/-- ITS FALSE NEIGHBOUR: 'it returns false'. Refute it at one input. -/
def snapPlaysWrong : ChangeSpec := { name := "snapPlays", fn := fun _ => fun
  | [d] => { results := [.lit (.bool false)], args := [d] }
  | _ => none }
def SnapPlaysWrongFalsely : Prop := snapPlaysRow.holds Try.pinned (OpenSpec.ofChange snapPlaysWrong)

/-- 'droverlaw07.SnapAll': WHATEVER THE INPUT: true; the input reads as it did. -/
def snapAllSpec : ChangeSpec := { name := "snapAll", fn := fun _ => fun
  | [d1, d2, d3] => { results := [.lit (.bool true)], args := [d1, d2, d3] }
  | _ => none }
def snapAllRow : OpenClaim := { program := "ytimflfflfaiccaa", sum := "fdc6fe96718ff86812543b7ba7789252d033a4716481642a84ba91f0ee42c56a", func := "drover/droverlaw07.SnapAll", spec := "snapAll", unfollowed := true, recurses := true, apart := false }
def SnapAllSaid : Prop := snapAllRow.holds Try.pinned (OpenSpec.ofChange snapAllSpec)

/-- ITS FALSE NEIGHBOUR: 'it returns false'. Refute it at one input. -/
def snapAllWrong : ChangeSpec := { name := "snapAll", fn := fun _ => fun
  | [d1, d2, d3] => { results := [.lit (.bool false)], args := [d1, d2, d3] }
  | _ => none }
def SnapAllWrongFalsely : Prop := snapAllRow.holds Try.pinned (OpenSpec.ofChange snapAllWrong)

/- THE SECOND FORM. 'bulk': how many values and letters a reading holds, each counted each time it is reached (what is shared counts as often as it is met; a slice's spare places count too). A statement '..UptoSaid' is the law's where the arguments, and the package variables that the reading takes, are together of bulk at most 1048576: NARROWER than '..Said'. Prove '..Said' where nothing that the law and all that it calls make is longer than what came in: it says more and counts as full. Else prove '..UptoSaid'. A law counts once. -/
mutual
def uptoBulk {H : Type} : DataW H → Nat
  | .lit (.string bytes) => bytes.length + 1
  | .lit _ => 1
  | .nil => 1
  | .ptr d => uptoBulk d + 1
  | .slice elems spare => uptoBulkAll elems + uptoBulkAll spare + 1
  | .agg parts => uptoBulkAll parts + 1
  | .iface _ d => uptoBulk d + 1
  | .map entries => uptoBulkEntries entries + 1
  | .held _ => 1
def uptoBulkAll {H : Type} : List (DataW H) → Nat
  | [] => 0
  | d :: r => uptoBulk d + uptoBulkAll r
def uptoBulkEntries {H : Type} : List (Lit × DataW H) → Nat
  | [] => 0
  | x :: r => uptoBulkEntry x + uptoBulkEntries r
def uptoBulkEntry {H : Type} : Lit × DataW H → Nat
  | (.string bytes, d) => bytes.length + uptoBulk d + 1
  | (_, d) => uptoBulk d + 1
 end
def uptoSmall : (H : Type) → List (DataW H) → Bool := fun _ ds => decide (uptoBulkAll ds ≤ 1048576)
def OpenSpec.upto (s : _root_.Go.ChangeSpec) : _root_.Go.OpenSpec := { _root_.Go.OpenSpec.ofChange s with cond := some uptoSmall }

/-- 'droverlaw07.SnapFits', WHERE WHAT IT READS IS OF BULK AT MOST 1048576: true; the input reads as it did. -/
def snapFitsUptoRow : OpenClaim := { program := "ytimflfflfaiccaa", sum := "fdc6fe96718ff86812543b7ba7789252d033a4716481642a84ba91f0ee42c56a", func := "drover/droverlaw07.SnapFits", spec := "snapFits", apart := false, narrowed := true }
def SnapFitsUptoSaid : Prop := snapFitsUptoRow.holds Try.pinned (OpenSpec.upto snapFitsSpec)

/-- 'droverlaw07.SnapNil', WHERE WHAT IT READS IS OF BULK AT MOST 1048576: true; the input reads as it did. -/
def snapNilUptoRow : OpenClaim := { program := "ytimflfflfaiccaa", sum := "fdc6fe96718ff86812543b7ba7789252d033a4716481642a84ba91f0ee42c56a", func := "drover/droverlaw07.SnapNil", spec := "snapNil", apart := false, narrowed := true }
def SnapNilUptoSaid : Prop := snapNilUptoRow.holds Try.pinned (OpenSpec.upto snapNilSpec)

/-- 'droverlaw07.SnapApart', WHERE WHAT IT READS IS OF BULK AT MOST 1048576: true; the input reads as it did. -/
def snapApartUptoRow : OpenClaim := { program := "ytimflfflfaiccaa", sum := "fdc6fe96718ff86812543b7ba7789252d033a4716481642a84ba91f0ee42c56a", func := "drover/droverlaw07.SnapApart", spec := "snapApart", apart := false, narrowed := true }
def SnapApartUptoSaid : Prop := snapApartUptoRow.holds Try.pinned (OpenSpec.upto snapApartSpec)

/-- 'droverlaw07.SnapPlays', WHERE WHAT IT READS IS OF BULK AT MOST 1048576: true; the input reads as it did. -/
def snapPlaysUptoRow : OpenClaim := { program := "ytimflfflfaiccaa", sum := "fdc6fe96718ff86812543b7ba7789252d033a4716481642a84ba91f0ee42c56a", func := "drover/droverlaw07.SnapPlays", spec := "snapPlays", unfollowed := true, recurses := true, apart := false, narrowed := true }
def SnapPlaysUptoSaid : Prop := snapPlaysUptoRow.holds Try.pinned (OpenSpec.upto snapPlaysSpec)

/-- 'droverlaw07.SnapAll', WHERE WHAT IT READS IS OF BULK AT MOST 1048576: true; the input reads as it did. -/
def snapAllUptoRow : OpenClaim := { program := "ytimflfflfaiccaa", sum := "fdc6fe96718ff86812543b7ba7789252d033a4716481642a84ba91f0ee42c56a", func := "drover/droverlaw07.SnapAll", spec := "snapAll", unfollowed := true, recurses := true, apart := false, narrowed := true }
def SnapAllUptoSaid : Prop := snapAllUptoRow.holds Try.pinned (OpenSpec.upto snapAllSpec)

end Rows
end Go.Proofs.Ytimflfflfaiccaa
