/-
  No cell of these rows narrows 'for every input' (looked for: loops, veiled, ifaces, maps, wideKeys, modest, calm, conditions, laid).
  DERIVED. THE GIVEN ROWS OF THIS SEAT. 5 by the template 'for every input the law returns true; each argument reads behind the call as it read before'; 0 by the template 'total and deterministic' (their statements: YtkfebhogimmoeaaTotals.lean).
  GIVEN WITH THE SEED: the statements are not yours to turn. If you find one false, say at which input.
  Laid BY PROGRAM, IN A SANDBOX (cutbox-rows.mjs): the forced cells as the released guide's own fill.sh prints them over the translation 5d9fd32b85b2e3a4… (all of the seat's roots in one cut). By AI agents, Wed Nov 11 2026. No macro, syntax, notation, axiom, sorry.
-/
import Derived.Test.YtkfebhogimmoeaaChecked
import GoSem.Claim
import GoSem.ClaimJoined
import GoSem.ClaimMapViews
import Derived.JoinedTies
import Derived.KernelRfl
namespace Go.Proofs.Ytkfebhogimmoeaa
/- THE CELL 'sum', in the pinned program and in every row, IS THE sha256 OF THE DUMP (.gsa) THAT YtkfebhogimmoeaaProg.lean LOADS. Nothing in Lean hashes anything: it is a label: what it is worth is what the hold of that sum in a sandbox is worth. -/
noncomputable def Try.pinned : Pinned := { name := "ytkfebhogimmoeaa", sum := "5d9fd32b85b2e3a4057428f5e73dc43170955d2cd8abac4e94d59d1da772773b", checked := Try.checked }
namespace Rows
def none {H : Type} : Left H := { results := [], args := [] }

/-- 'droverlaw11.ProfileHolds': WHATEVER THE INPUT: true; the input reads as it did. -/
def profileHoldsSpec : ChangeSpec := { name := "profileHolds", fn := fun _ => fun
  | [d1, d2] => { results := [.lit (.bool true)], args := [d1, d2] }
  | _ => none }
def profileHoldsRow : OpenClaim := { program := "ytkfebhogimmoeaa", sum := "5d9fd32b85b2e3a4057428f5e73dc43170955d2cd8abac4e94d59d1da772773b", func := "drover/droverlaw11.ProfileHolds", spec := "profileHolds", inPlace := ["slices.overlaps[drover/profile.Step]"], unfollowed := true, recurses := true, apart := false }
def ProfileHoldsSaid : Prop := profileHoldsRow.holds Try.pinned (OpenSpec.ofChange profileHoldsSpec)

/-- ITS FALSE NEIGHBOUR: 'it returns false'. Refute it at one input. -/
def profileHoldsWrong : ChangeSpec := { name := "profileHolds", fn := fun _ => fun
  | [d1, d2] => { results := [.lit (.bool false)], args := [d1, d2] }
  | _ => none }
def ProfileHoldsWrongFalsely : Prop := profileHoldsRow.holds Try.pinned (OpenSpec.ofChange profileHoldsWrong)

/-- 'droverlaw11.ProfileOrder': WHATEVER THE INPUT: true; the input reads as it did. -/
def profileOrderSpec : ChangeSpec := { name := "profileOrder", fn := fun _ => fun
  | [d1, d2] => { results := [.lit (.bool true)], args := [d1, d2] }
  | _ => none }
def profileOrderRow : OpenClaim := { program := "ytkfebhogimmoeaa", sum := "5d9fd32b85b2e3a4057428f5e73dc43170955d2cd8abac4e94d59d1da772773b", func := "drover/droverlaw11.ProfileOrder", spec := "profileOrder", inPlace := ["slices.overlaps[drover/profile.Step]"], unfollowed := true, recurses := true, apart := false }
def ProfileOrderSaid : Prop := profileOrderRow.holds Try.pinned (OpenSpec.ofChange profileOrderSpec)

/-- ITS FALSE NEIGHBOUR: 'it returns false'. Refute it at one input. -/
def profileOrderWrong : ChangeSpec := { name := "profileOrder", fn := fun _ => fun
  | [d1, d2] => { results := [.lit (.bool false)], args := [d1, d2] }
  | _ => none }
def ProfileOrderWrongFalsely : Prop := profileOrderRow.holds Try.pinned (OpenSpec.ofChange profileOrderWrong)

/-- 'droverlaw11.ProfileEarliest': WHATEVER THE INPUT: true; the input reads as it did. -/
def profileEarliestSpec : ChangeSpec := { name := "profileEarliest", fn := fun _ => fun
  | [d1, d2, d3] => { results := [.lit (.bool true)], args := [d1, d2, d3] }
  | _ => none }
def profileEarliestRow : OpenClaim := { program := "ytkfebhogimmoeaa", sum := "5d9fd32b85b2e3a4057428f5e73dc43170955d2cd8abac4e94d59d1da772773b", func := "drover/droverlaw11.ProfileEarliest", spec := "profileEarliest", inPlace := ["slices.overlaps[drover/profile.Step]"], unfollowed := true, recurses := true, apart := false }
def ProfileEarliestSaid : Prop := profileEarliestRow.holds Try.pinned (OpenSpec.ofChange profileEarliestSpec)

/-- ITS FALSE NEIGHBOUR: 'it returns false'. Refute it at one input. -/
def profileEarliestWrong : ChangeSpec := { name := "profileEarliest", fn := fun _ => fun
  | [d1, d2, d3] => { results := [.lit (.bool false)], args := [d1, d2, d3] }
  | _ => none }
def ProfileEarliestWrongFalsely : Prop := profileEarliestRow.holds Try.pinned (OpenSpec.ofChange profileEarliestWrong)

/-- 'droverlaw11.ProfilePlays': WHATEVER THE INPUT: true; the input reads as it did. -/
def profilePlaysSpec : ChangeSpec := { name := "profilePlays", fn := fun _ => fun
  | [d1, d2] => { results := [.lit (.bool true)], args := [d1, d2] }
  | _ => none }
def profilePlaysRow : OpenClaim := { program := "ytkfebhogimmoeaa", sum := "5d9fd32b85b2e3a4057428f5e73dc43170955d2cd8abac4e94d59d1da772773b", func := "drover/droverlaw11.ProfilePlays", spec := "profilePlays", inPlace := ["slices.overlaps[drover/profile.Step]"], unfollowed := true, recurses := true, apart := false }
def ProfilePlaysSaid : Prop := profilePlaysRow.holds Try.pinned (OpenSpec.ofChange profilePlaysSpec)

/-- ITS FALSE NEIGHBOUR: 'it returns false'. Refute it at one input. -/
def profilePlaysWrong : ChangeSpec := { name := "profilePlays", fn := fun _ => fun
  | [d1, d2] => { results := [.lit (.bool false)], args := [d1, d2] }
  | _ => none }
def ProfilePlaysWrongFalsely : Prop := profilePlaysRow.holds Try.pinned (OpenSpec.ofChange profilePlaysWrong)

/-- 'droverlaw11.ProfileNil': WHATEVER THE INPUT: true; the input reads as it did. -/
def profileNilSpec : ChangeSpec := { name := "profileNil", fn := fun _ => fun
  | [d1, d2, d3] => { results := [.lit (.bool true)], args := [d1, d2, d3] }
  | _ => none }
def profileNilRow : OpenClaim := { program := "ytkfebhogimmoeaa", sum := "5d9fd32b85b2e3a4057428f5e73dc43170955d2cd8abac4e94d59d1da772773b", func := "drover/droverlaw11.ProfileNil", spec := "profileNil", inPlace := ["slices.overlaps[drover/profile.Step]"], unfollowed := true, recurses := true, apart := false }
def ProfileNilSaid : Prop := profileNilRow.holds Try.pinned (OpenSpec.ofChange profileNilSpec)

/-- ITS FALSE NEIGHBOUR: 'it returns false'. Refute it at one input. -/
def profileNilWrong : ChangeSpec := { name := "profileNil", fn := fun _ => fun
  | [d1, d2, d3] => { results := [.lit (.bool false)], args := [d1, d2, d3] }
  | _ => none }
def ProfileNilWrongFalsely : Prop := profileNilRow.holds Try.pinned (OpenSpec.ofChange profileNilWrong)

/- THE SECOND FORM. 'bulk': how many values and letters a reading holds, each counted each time it is reached (what is shared counts as often as it is met; a slice's spare places count too). A statement '..UptoSaid' is the law's where the arguments, and the package variables that the reading takes, are together of bulk at most 1048576: NARROWER than '..Said'. Prove '..Said' where nothing that the law and all that it calls make is longer than what came in: it says more and counts as full. Else prove '..UptoSaid'. A law counts once. -/
mutual
def uptoBulk {H : Type} : DataW H → Nat
  | .lit (.string bytes) => bytes.length + 1
  | .lit _ => 1
  | .nil => 1
  | .ptr d => uptoBulk d + 1
  | .slice elems spare => uptoBulkAll elems + uptoBulkAll spare + 1
  | .agg parts => uptoBulkAll parts + 1
  | .iface _ d => uptoBulk d + 1
  | .map entries => uptoBulkEntries entries + 1
  | .held _ => 1
def uptoBulkAll {H : Type} : List (DataW H) → Nat
  | [] => 0
  | d :: r => uptoBulk d + uptoBulkAll r
def uptoBulkEntries {H : Type} : List (Lit × DataW H) → Nat
  | [] => 0
  | x :: r => uptoBulkEntry x + uptoBulkEntries r
def uptoBulkEntry {H : Type} : Lit × DataW H → Nat
  | (.string bytes, d) => bytes.length + uptoBulk d + 1
  | (_, d) => uptoBulk d + 1
 end
def uptoSmall : (H : Type) → List (DataW H) → Bool := fun _ ds => decide (uptoBulkAll ds ≤ 1048576)
def OpenSpec.upto (s : _root_.Go.ChangeSpec) : _root_.Go.OpenSpec := { _root_.Go.OpenSpec.ofChange s with cond := some uptoSmall }

/-- 'droverlaw11.ProfileHolds', WHERE WHAT IT READS IS OF BULK AT MOST 1048576: true; the input reads as it did. -/
def profileHoldsUptoRow : OpenClaim := { program := "ytkfebhogimmoeaa", sum := "5d9fd32b85b2e3a4057428f5e73dc43170955d2cd8abac4e94d59d1da772773b", func := "drover/droverlaw11.ProfileHolds", spec := "profileHolds", inPlace := ["slices.overlaps[drover/profile.Step]"], unfollowed := true, recurses := true, apart := false, narrowed := true }
def ProfileHoldsUptoSaid : Prop := profileHoldsUptoRow.holds Try.pinned (OpenSpec.upto profileHoldsSpec)

/-- 'droverlaw11.ProfileOrder', WHERE WHAT IT READS IS OF BULK AT MOST 1048576: true; the input reads as it did. -/
def profileOrderUptoRow : OpenClaim := { program := "ytkfebhogimmoeaa", sum := "5d9fd32b85b2e3a4057428f5e73dc43170955d2cd8abac4e94d59d1da772773b", func := "drover/droverlaw11.ProfileOrder", spec := "profileOrder", inPlace := ["slices.overlaps[drover/profile.Step]"], unfollowed := true, recurses := true, apart := false, narrowed := true }
def ProfileOrderUptoSaid : Prop := profileOrderUptoRow.holds Try.pinned (OpenSpec.upto profileOrderSpec)

/-- 'droverlaw11.ProfileEarliest', WHERE WHAT IT READS IS OF BULK AT MOST 1048576: true; the input reads as it did. -/
def profileEarliestUptoRow : OpenClaim := { program := "ytkfebhogimmoeaa", sum := "5d9fd32b85b2e3a4057428f5e73dc43170955d2cd8abac4e94d59d1da772773b", func := "drover/droverlaw11.ProfileEarliest", spec := "profileEarliest", inPlace := ["slices.overlaps[drover/profile.Step]"], unfollowed := true, recurses := true, apart := false, narrowed := true }
def ProfileEarliestUptoSaid : Prop := profileEarliestUptoRow.holds Try.pinned (OpenSpec.upto profileEarliestSpec)

/-- 'droverlaw11.ProfilePlays', WHERE WHAT IT READS IS OF BULK AT MOST 1048576: true; the input reads as it did. -/
def profilePlaysUptoRow : OpenClaim := { program := "ytkfebhogimmoeaa", sum := "5d9fd32b85b2e3a4057428f5e73dc43170955d2cd8abac4e94d59d1da772773b", func := "drover/droverlaw11.ProfilePlays", spec := "profilePlays", inPlace := ["slices.overlaps[drover/profile.Step]"], unfollowed := true, recurses := true, apart := false, narrowed := true }
def ProfilePlaysUptoSaid : Prop := profilePlaysUptoRow.holds Try.pinned (OpenSpec.upto profilePlaysSpec)

/-- 'droverlaw11.ProfileNil', WHERE WHAT IT READS IS OF BULK AT MOST 1048576: true; the input reads as it did. -/
def profileNilUptoRow : OpenClaim := { program := "ytkfebhogimmoeaa", sum := "5d9fd32b85b2e3a4057428f5e73dc43170955d2cd8abac4e94d59d1da772773b", func := "drover/droverlaw11.ProfileNil", spec := "profileNil", inPlace := ["slices.overlaps[drover/profile.Step]"], unfollowed := true, recurses := true, apart := false, narrowed := true }
def ProfileNilUptoSaid : Prop := profileNilUptoRow.holds Try.pinned (OpenSpec.upto profileNilSpec)

end Rows
end Go.Proofs.Ytkfebhogimmoeaa
