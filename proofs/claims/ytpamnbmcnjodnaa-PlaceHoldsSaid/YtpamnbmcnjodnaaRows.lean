/-
  No cell of these rows narrows 'for every input' (looked for: loops, veiled, ifaces, maps, wideKeys, modest, calm, conditions, laid).
  DERIVED. THE GIVEN ROWS OF THIS SEAT. 6 by the template 'for every input the law returns true; each argument reads behind the call as it read before'; 0 by the template 'total and deterministic' (their statements: YtpamnbmcnjodnaaTotals.lean).
  GIVEN WITH THE SEED: the statements are not yours to turn. If you find one false, say at which input.
  Laid BY PROGRAM, IN A SANDBOX (cutbox-rows.mjs): the forced cells as the released guide's own fill.sh prints them over the translation 4f64e7978ac254c1… (all of the seat's roots in one cut). By AI agents, Wed Nov 11 2026. No macro, syntax, notation, axiom, sorry.
-/
import Derived.Test.YtpamnbmcnjodnaaChecked
import GoSem.Claim
import GoSem.ClaimJoined
import GoSem.ClaimMapViews
import Derived.JoinedTies
import Derived.KernelRfl
namespace Go.Proofs.Ytpamnbmcnjodnaa
/- THE CELL 'sum', in the pinned program and in every row, IS THE sha256 OF THE DUMP (.gsa) THAT YtpamnbmcnjodnaaProg.lean LOADS. Nothing in Lean hashes anything: it is a label: what it is worth is what the hold of that sum in a sandbox is worth. -/
noncomputable def Try.pinned : Pinned := { name := "ytpamnbmcnjodnaa", sum := "4f64e7978ac254c192d57f73442a964f11f818345105c83e091712a86e06ae2c", checked := Try.checked }
namespace Rows
def none {H : Type} : Left H := { results := [], args := [] }

/-- 'droverlaw16.PlaceFits': WHATEVER THE INPUT: true; the input reads as it did. -/
def placeFitsSpec : ChangeSpec := { name := "placeFits", fn := fun _ => fun
  | [d1, d2] => { results := [.lit (.bool true)], args := [d1, d2] }
  | _ => none }
def placeFitsRow : OpenClaim := { program := "ytpamnbmcnjodnaa", sum := "4f64e7978ac254c192d57f73442a964f11f818345105c83e091712a86e06ae2c", func := "drover/droverlaw16.PlaceFits", spec := "placeFits", unfollowed := true, recurses := true, apart := false }
def PlaceFitsSaid : Prop := placeFitsRow.holds Try.pinned (OpenSpec.ofChange placeFitsSpec)

/-- ITS FALSE NEIGHBOUR: 'it returns false'. Refute it at one input. -/
def placeFitsWrong : ChangeSpec := { name := "placeFits", fn := fun _ => fun
  | [d1, d2] => { results := [.lit (.bool false)], args := [d1, d2] }
  | _ => none }
def PlaceFitsWrongFalsely : Prop := placeFitsRow.holds Try.pinned (OpenSpec.ofChange placeFitsWrong)

/-- 'droverlaw16.PlaceHolds': WHATEVER THE INPUT: true; the input reads as it did. -/
def placeHoldsSpec : ChangeSpec := { name := "placeHolds", fn := fun _ => fun
  | [d1, d2] => { results := [.lit (.bool true)], args := [d1, d2] }
  | _ => none }
def placeHoldsRow : OpenClaim := { program := "ytpamnbmcnjodnaa", sum := "4f64e7978ac254c192d57f73442a964f11f818345105c83e091712a86e06ae2c", func := "drover/droverlaw16.PlaceHolds", spec := "placeHolds", unfollowed := true, recurses := true, apart := false }
def PlaceHoldsSaid : Prop := placeHoldsRow.holds Try.pinned (OpenSpec.ofChange placeHoldsSpec)

/-- ITS FALSE NEIGHBOUR: 'it returns false'. Refute it at one input. -/
def placeHoldsWrong : ChangeSpec := { name := "placeHolds", fn := fun _ => fun
  | [d1, d2] => { results := [.lit (.bool false)], args := [d1, d2] }
  | _ => none }
def PlaceHoldsWrongFalsely : Prop := placeHoldsRow.holds Try.pinned (OpenSpec.ofChange placeHoldsWrong)

/-- 'droverlaw16.PlaceOne': WHATEVER THE INPUT: true; the input reads as it did. -/
def placeOneSpec : ChangeSpec := { name := "placeOne", fn := fun _ => fun
  | [d1, d2, d3] => { results := [.lit (.bool true)], args := [d1, d2, d3] }
  | _ => none }
def placeOneRow : OpenClaim := { program := "ytpamnbmcnjodnaa", sum := "4f64e7978ac254c192d57f73442a964f11f818345105c83e091712a86e06ae2c", func := "drover/droverlaw16.PlaceOne", spec := "placeOne", unfollowed := true, recurses := true, apart := false }
def PlaceOneSaid : Prop := placeOneRow.holds Try.pinned (OpenSpec.ofChange placeOneSpec)

/-- ITS FALSE NEIGHBOUR: 'it returns false'. Refute it at one input. -/
def placeOneWrong : ChangeSpec := { name := "placeOne", fn := fun _ => fun
  | [d1, d2, d3] => { results := [.lit (.bool false)], args := [d1, d2, d3] }
  | _ => none }
def PlaceOneWrongFalsely : Prop := placeOneRow.holds Try.pinned (OpenSpec.ofChange placeOneWrong)

/-- 'droverlaw16.PlaceMoves': WHATEVER THE INPUT: true; the input reads as it did. -/
def placeMovesSpec : ChangeSpec := { name := "placeMoves", fn := fun _ => fun
  | [d1, d2, d3] => { results := [.lit (.bool true)], args := [d1, d2, d3] }
  | _ => none }
def placeMovesRow : OpenClaim := { program := "ytpamnbmcnjodnaa", sum := "4f64e7978ac254c192d57f73442a964f11f818345105c83e091712a86e06ae2c", func := "drover/droverlaw16.PlaceMoves", spec := "placeMoves", unfollowed := true, recurses := true, apart := false }
def PlaceMovesSaid : Prop := placeMovesRow.holds Try.pinned (OpenSpec.ofChange placeMovesSpec)

/-- ITS FALSE NEIGHBOUR: 'it returns false'. Refute it at one input. -/
def placeMovesWrong : ChangeSpec := { name := "placeMoves", fn := fun _ => fun
  | [d1, d2, d3] => { results := [.lit (.bool false)], args := [d1, d2, d3] }
  | _ => none }
def PlaceMovesWrongFalsely : Prop := placeMovesRow.holds Try.pinned (OpenSpec.ofChange placeMovesWrong)

/-- 'droverlaw16.PlaceBack': WHATEVER THE INPUT: true; the input reads as it did. -/
def placeBackSpec : ChangeSpec := { name := "placeBack", fn := fun _ => fun
  | [d1, d2] => { results := [.lit (.bool true)], args := [d1, d2] }
  | _ => none }
def placeBackRow : OpenClaim := { program := "ytpamnbmcnjodnaa", sum := "4f64e7978ac254c192d57f73442a964f11f818345105c83e091712a86e06ae2c", func := "drover/droverlaw16.PlaceBack", spec := "placeBack", unfollowed := true, recurses := true, apart := false }
def PlaceBackSaid : Prop := placeBackRow.holds Try.pinned (OpenSpec.ofChange placeBackSpec)

/-- ITS FALSE NEIGHBOUR: 'it returns false'. Refute it at one input. -/
def placeBackWrong : ChangeSpec := { name := "placeBack", fn := fun _ => fun
  | [d1, d2] => { results := [.lit (.bool false)], args := [d1, d2] }
  | _ => none }
def PlaceBackWrongFalsely : Prop := placeBackRow.holds Try.pinned (OpenSpec.ofChange placeBackWrong)

/-- 'droverlaw16.PlaceKeeps': WHATEVER THE INPUT: true; the input reads as it did. -/
def placeKeepsSpec : ChangeSpec := { name := "placeKeeps", fn := fun _ => fun
  | [d1, d2] => { results := [.lit (.bool true)], args := [d1, d2] }
  | _ => none }
def placeKeepsRow : OpenClaim := { program := "ytpamnbmcnjodnaa", sum := "4f64e7978ac254c192d57f73442a964f11f818345105c83e091712a86e06ae2c", func := "drover/droverlaw16.PlaceKeeps", spec := "placeKeeps", unfollowed := true, recurses := true, apart := false }
def PlaceKeepsSaid : Prop := placeKeepsRow.holds Try.pinned (OpenSpec.ofChange placeKeepsSpec)

/-- ITS FALSE NEIGHBOUR: 'it returns false'. Refute it at one input. -/
def placeKeepsWrong : ChangeSpec := { name := "placeKeeps", fn := fun _ => fun
  | [d1, d2] => { results := [.lit (.bool false)], args := [d1, d2] }
  | _ => none }
def PlaceKeepsWrongFalsely : Prop := placeKeepsRow.holds Try.pinned (OpenSpec.ofChange placeKeepsWrong)

/- THE SECOND FORM. 'bulk': how many values and letters a reading holds, each counted each time it is reached (what is shared counts as often as it is met; a slice's spare places count too). A statement '..UptoSaid' is the law's where the arguments, and the package variables that the reading takes, are together of bulk at most 1048576: NARROWER than '..Said'. Prove '..Said' where nothing that the law and all that it calls make is longer than what came in: it says more and counts as full. Else prove '..UptoSaid'. A law counts once. -/
mutual
def uptoBulk {H : Type} : DataW H → Nat
  | .lit (.string bytes) => bytes.length + 1
  | .lit _ => 1
  | .nil => 1
  | .ptr d => uptoBulk d + 1
  | .slice elems spare => uptoBulkAll elems + uptoBulkAll spare + 1
  | .agg parts => uptoBulkAll parts + 1
  | .iface _ d => uptoBulk d + 1
  | .map entries => uptoBulkEntries entries + 1
  | .held _ => 1
def uptoBulkAll {H : Type} : List (DataW H) → Nat
  | [] => 0
  | d :: r => uptoBulk d + uptoBulkAll r
def uptoBulkEntries {H : Type} : List (Lit × DataW H) → Nat
  | [] => 0
  | x :: r => uptoBulkEntry x + uptoBulkEntries r
def uptoBulkEntry {H : Type} : Lit × DataW H → Nat
  | (.string bytes, d) => bytes.length + uptoBulk d + 1
  | (_, d) => uptoBulk d + 1
 end
def uptoSmall : (H : Type) → List (DataW H) → Bool := fun _ ds => decide (uptoBulkAll ds ≤ 1048576)
def OpenSpec.upto (s : _root_.Go.ChangeSpec) : _root_.Go.OpenSpec := { _root_.Go.OpenSpec.ofChange s with cond := some uptoSmall }

/-- 'droverlaw16.PlaceFits', WHERE WHAT IT READS IS OF BULK AT MOST 1048576: true; the input reads as it did. -/
def placeFitsUptoRow : OpenClaim := { program := "ytpamnbmcnjodnaa", sum := "4f64e7978ac254c192d57f73442a964f11f818345105c83e091712a86e06ae2c", func := "drover/droverlaw16.PlaceFits", spec := "placeFits", unfollowed := true, recurses := true, apart := false, narrowed := true }
def PlaceFitsUptoSaid : Prop := placeFitsUptoRow.holds Try.pinned (OpenSpec.upto placeFitsSpec)

/-- 'droverlaw16.PlaceHolds', WHERE WHAT IT READS IS OF BULK AT MOST 1048576: true; the input reads as it did. -/
def placeHoldsUptoRow : OpenClaim := { program := "ytpamnbmcnjodnaa", sum := "4f64e7978ac254c192d57f73442a964f11f818345105c83e091712a86e06ae2c", func := "drover/droverlaw16.PlaceHolds", spec := "placeHolds", unfollowed := true, recurses := true, apart := false, narrowed := true }
def PlaceHoldsUptoSaid : Prop := placeHoldsUptoRow.holds Try.pinned (OpenSpec.upto placeHoldsSpec)

/-- 'droverlaw16.PlaceOne', WHERE WHAT IT READS IS OF BULK AT MOST 1048576: true; the input reads as it did. -/
def placeOneUptoRow : OpenClaim := { program := "ytpamnbmcnjodnaa", sum := "4f64e7978ac254c192d57f73442a964f11f818345105c83e091712a86e06ae2c", func := "drover/droverlaw16.PlaceOne", spec := "placeOne", unfollowed := true, recurses := true, apart := false, narrowed := true }
def PlaceOneUptoSaid : Prop := placeOneUptoRow.holds Try.pinned (OpenSpec.upto placeOneSpec)

/-- 'droverlaw16.PlaceMoves', WHERE WHAT IT READS IS OF BULK AT MOST 1048576: true; the input reads as it did. -/
def placeMovesUptoRow : OpenClaim := { program := "ytpamnbmcnjodnaa", sum := "4f64e7978ac254c192d57f73442a964f11f818345105c83e091712a86e06ae2c", func := "drover/droverlaw16.PlaceMoves", spec := "placeMoves", unfollowed := true, recurses := true, apart := false, narrowed := true }
def PlaceMovesUptoSaid : Prop := placeMovesUptoRow.holds Try.pinned (OpenSpec.upto placeMovesSpec)

/-- 'droverlaw16.PlaceBack', WHERE WHAT IT READS IS OF BULK AT MOST 1048576: true; the input reads as it did. -/
def placeBackUptoRow : OpenClaim := { program := "ytpamnbmcnjodnaa", sum := "4f64e7978ac254c192d57f73442a964f11f818345105c83e091712a86e06ae2c", func := "drover/droverlaw16.PlaceBack", spec := "placeBack", unfollowed := true, recurses := true, apart := false, narrowed := true }
def PlaceBackUptoSaid : Prop := placeBackUptoRow.holds Try.pinned (OpenSpec.upto placeBackSpec)

/-- 'droverlaw16.PlaceKeeps', WHERE WHAT IT READS IS OF BULK AT MOST 1048576: true; the input reads as it did. -/
def placeKeepsUptoRow : OpenClaim := { program := "ytpamnbmcnjodnaa", sum := "4f64e7978ac254c192d57f73442a964f11f818345105c83e091712a86e06ae2c", func := "drover/droverlaw16.PlaceKeeps", spec := "placeKeeps", unfollowed := true, recurses := true, apart := false, narrowed := true }
def PlaceKeepsUptoSaid : Prop := placeKeepsUptoRow.holds Try.pinned (OpenSpec.upto placeKeepsSpec)

end Rows
end Go.Proofs.Ytpamnbmcnjodnaa
