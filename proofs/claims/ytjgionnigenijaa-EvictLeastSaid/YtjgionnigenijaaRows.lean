/-
  No cell of these rows narrows 'for every input' (looked for: loops, veiled, ifaces, maps, wideKeys, modest, calm, conditions, laid).
  DERIVED. THE GIVEN ROWS OF THIS SEAT. 6 by the template 'for every input the law returns true; each argument reads behind the call as it read before'; 0 by the template 'total and deterministic' (their statements: YtjgionnigenijaaTotals.lean).
  GIVEN WITH THE SEED: the statements are not yours to turn. If you find one false, say at which input.
  Laid BY PROGRAM, IN A SANDBOX (cutbox-rows.mjs): the forced cells as the released guide's own fill.sh prints them over the translation 10a0defd5ce5d407… (all of the seat's roots in one cut). By AI agents, Wed Nov 11 2026. No macro, syntax, notation, axiom, sorry.
-/
import Derived.Test.YtjgionnigenijaaChecked
import GoSem.Claim
import GoSem.ClaimJoined
import GoSem.ClaimMapViews
import Derived.JoinedTies
import Derived.KernelRfl
namespace Go.Proofs.Ytjgionnigenijaa
/- THE CELL 'sum', in the pinned program and in every row, IS THE sha256 OF THE DUMP (.gsa) THAT YtjgionnigenijaaProg.lean LOADS. Nothing in Lean hashes anything: it is a label: what it is worth is what the hold of that sum in a sandbox is worth. -/
noncomputable def Try.pinned : Pinned := { name := "ytjgionnigenijaa", sum := "10a0defd5ce5d407e78feb74a29767f1207a2e54c3c4d2c5cd46de497829419b", checked := Try.checked }
namespace Rows
def none {H : Type} : Left H := { results := [], args := [] }

/-- 'droverlaw17.EvictChooses': WHATEVER THE INPUT: true; the input reads as it did. -/
def evictChoosesSpec : ChangeSpec := { name := "evictChooses", fn := fun _ => fun
  | [d1, d2, d3] => { results := [.lit (.bool true)], args := [d1, d2, d3] }
  | _ => none }
def evictChoosesRow : OpenClaim := { program := "ytjgionnigenijaa", sum := "10a0defd5ce5d407e78feb74a29767f1207a2e54c3c4d2c5cd46de497829419b", func := "drover/droverlaw17.EvictChooses", spec := "evictChooses", unfollowed := true, recurses := true, apart := false }
def EvictChoosesSaid : Prop := evictChoosesRow.holds Try.pinned (OpenSpec.ofChange evictChoosesSpec)

/-- ITS FALSE NEIGHBOUR: 'it returns false'. Refute it at one input. -/
def evictChoosesWrong : ChangeSpec := { name := "evictChooses", fn := fun _ => fun
  | [d1, d2, d3] => { results := [.lit (.bool false)], args := [d1, d2, d3] }
  | _ => none }
def EvictChoosesWrongFalsely : Prop := evictChoosesRow.holds Try.pinned (OpenSpec.ofChange evictChoosesWrong)

/-- 'droverlaw17.EvictLeast': WHATEVER THE INPUT: true; the input reads as it did. -/
def evictLeastSpec : ChangeSpec := { name := "evictLeast", fn := fun _ => fun
  | [d1, d2, d3] => { results := [.lit (.bool true)], args := [d1, d2, d3] }
  | _ => none }
def evictLeastRow : OpenClaim := { program := "ytjgionnigenijaa", sum := "10a0defd5ce5d407e78feb74a29767f1207a2e54c3c4d2c5cd46de497829419b", func := "drover/droverlaw17.EvictLeast", spec := "evictLeast", unfollowed := true, recurses := true, apart := false }
def EvictLeastSaid : Prop := evictLeastRow.holds Try.pinned (OpenSpec.ofChange evictLeastSpec)

/-- ITS FALSE NEIGHBOUR: 'it returns false'. Refute it at one input. -/
def evictLeastWrong : ChangeSpec := { name := "evictLeast", fn := fun _ => fun
  | [d1, d2, d3] => { results := [.lit (.bool false)], args := [d1, d2, d3] }
  | _ => none }
def EvictLeastWrongFalsely : Prop := evictLeastRow.holds Try.pinned (OpenSpec.ofChange evictLeastWrong)

/-- 'droverlaw17.EvictNobody': WHATEVER THE INPUT: true; the input reads as it did. -/
def evictNobodySpec : ChangeSpec := { name := "evictNobody", fn := fun _ => fun
  | [d1, d2, d3] => { results := [.lit (.bool true)], args := [d1, d2, d3] }
  | _ => none }
def evictNobodyRow : OpenClaim := { program := "ytjgionnigenijaa", sum := "10a0defd5ce5d407e78feb74a29767f1207a2e54c3c4d2c5cd46de497829419b", func := "drover/droverlaw17.EvictNobody", spec := "evictNobody", unfollowed := true, recurses := true, apart := false }
def EvictNobodySaid : Prop := evictNobodyRow.holds Try.pinned (OpenSpec.ofChange evictNobodySpec)

/-- ITS FALSE NEIGHBOUR: 'it returns false'. Refute it at one input. -/
def evictNobodyWrong : ChangeSpec := { name := "evictNobody", fn := fun _ => fun
  | [d1, d2, d3] => { results := [.lit (.bool false)], args := [d1, d2, d3] }
  | _ => none }
def EvictNobodyWrongFalsely : Prop := evictNobodyRow.holds Try.pinned (OpenSpec.ofChange evictNobodyWrong)

/-- 'droverlaw17.EvictOrder': WHATEVER THE INPUT: true; the input reads as it did. -/
def evictOrderSpec : ChangeSpec := { name := "evictOrder", fn := fun _ => fun
  | [d1, d2, d3] => { results := [.lit (.bool true)], args := [d1, d2, d3] }
  | _ => none }
def evictOrderRow : OpenClaim := { program := "ytjgionnigenijaa", sum := "10a0defd5ce5d407e78feb74a29767f1207a2e54c3c4d2c5cd46de497829419b", func := "drover/droverlaw17.EvictOrder", spec := "evictOrder", unfollowed := true, recurses := true, apart := false }
def EvictOrderSaid : Prop := evictOrderRow.holds Try.pinned (OpenSpec.ofChange evictOrderSpec)

/-- ITS FALSE NEIGHBOUR: 'it returns false'. Refute it at one input. -/
def evictOrderWrong : ChangeSpec := { name := "evictOrder", fn := fun _ => fun
  | [d1, d2, d3] => { results := [.lit (.bool false)], args := [d1, d2, d3] }
  | _ => none }
def EvictOrderWrongFalsely : Prop := evictOrderRow.holds Try.pinned (OpenSpec.ofChange evictOrderWrong)

/-- 'droverlaw17.EvictMore': WHATEVER THE INPUT: true; the input reads as it did. -/
def evictMoreSpec : ChangeSpec := { name := "evictMore", fn := fun _ => fun
  | [d1, d2, d3] => { results := [.lit (.bool true)], args := [d1, d2, d3] }
  | _ => none }
def evictMoreRow : OpenClaim := { program := "ytjgionnigenijaa", sum := "10a0defd5ce5d407e78feb74a29767f1207a2e54c3c4d2c5cd46de497829419b", func := "drover/droverlaw17.EvictMore", spec := "evictMore", unfollowed := true, recurses := true, apart := false }
def EvictMoreSaid : Prop := evictMoreRow.holds Try.pinned (OpenSpec.ofChange evictMoreSpec)

/-- ITS FALSE NEIGHBOUR: 'it returns false'. Refute it at one input. -/
def evictMoreWrong : ChangeSpec := { name := "evictMore", fn := fun _ => fun
  | [d1, d2, d3] => { results := [.lit (.bool false)], args := [d1, d2, d3] }
  | _ => none }
def EvictMoreWrongFalsely : Prop := evictMoreRow.holds Try.pinned (OpenSpec.ofChange evictMoreWrong)

/-- 'droverlaw17.EvictTurns': WHATEVER THE INPUT: true; the input reads as it did. -/
def evictTurnsSpec : ChangeSpec := { name := "evictTurns", fn := fun _ => fun
  | [d] => { results := [.lit (.bool true)], args := [d] }
  | _ => none }
def evictTurnsRow : OpenClaim := { program := "ytjgionnigenijaa", sum := "10a0defd5ce5d407e78feb74a29767f1207a2e54c3c4d2c5cd46de497829419b", func := "drover/droverlaw17.EvictTurns", spec := "evictTurns", unfollowed := true, recurses := true, apart := false }
def EvictTurnsSaid : Prop := evictTurnsRow.holds Try.pinned (OpenSpec.ofChange evictTurnsSpec)

/-- ITS FALSE NEIGHBOUR: 'it returns false'. Refute it at one input. -/
def evictTurnsWrong : ChangeSpec := { name := "evictTurns", fn := fun _ => fun
  | [d] => { results := [.lit (.bool false)], args := [d] }
  | _ => none }
def EvictTurnsWrongFalsely : Prop := evictTurnsRow.holds Try.pinned (OpenSpec.ofChange evictTurnsWrong)

/- THE SECOND FORM. 'bulk': how many values and letters a reading holds, each counted each time it is reached (what is shared counts as often as it is met; a slice's spare places count too). A statement '..UptoSaid' is the law's where the arguments, and the package variables that the reading takes, are together of bulk at most 1048576: NARROWER than '..Said'. Prove '..Said' where nothing that the law and all that it calls make is longer than what came in: it says more and counts as full. Else prove '..UptoSaid'. A law counts once. -/
mutual
def uptoBulk {H : Type} : DataW H → Nat
  | .lit (.string bytes) => bytes.length + 1
  | .lit _ => 1
  | .nil => 1
  | .ptr d => uptoBulk d + 1
  | .slice elems spare => uptoBulkAll elems + uptoBulkAll spare + 1
  | .agg parts => uptoBulkAll parts + 1
  | .iface _ d => uptoBulk d + 1
  | .map entries => uptoBulkEntries entries + 1
  | .held _ => 1
def uptoBulkAll {H : Type} : List (DataW H) → Nat
  | [] => 0
  | d :: r => uptoBulk d + uptoBulkAll r
def uptoBulkEntries {H : Type} : List (Lit × DataW H) → Nat
  | [] => 0
  | x :: r => uptoBulkEntry x + uptoBulkEntries r
def uptoBulkEntry {H : Type} : Lit × DataW H → Nat
  | (.string bytes, d) => bytes.length + uptoBulk d + 1
  | (_, d) => uptoBulk d + 1
 end
def uptoSmall : (H : Type) → List (DataW H) → Bool := fun _ ds => decide (uptoBulkAll ds ≤ 1048576)
def OpenSpec.upto (s : _root_.Go.ChangeSpec) : _root_.Go.OpenSpec := { _root_.Go.OpenSpec.ofChange s with cond := some uptoSmall }

/-- 'droverlaw17.EvictChooses', WHERE WHAT IT READS IS OF BULK AT MOST 1048576: true; the input reads as it did. -/
def evictChoosesUptoRow : OpenClaim := { program := "ytjgionnigenijaa", sum := "10a0defd5ce5d407e78feb74a29767f1207a2e54c3c4d2c5cd46de497829419b", func := "drover/droverlaw17.EvictChooses", spec := "evictChooses", unfollowed := true, recurses := true, apart := false, narrowed := true }
def EvictChoosesUptoSaid : Prop := evictChoosesUptoRow.holds Try.pinned (OpenSpec.upto evictChoosesSpec)

/-- 'droverlaw17.EvictLeast', WHERE WHAT IT READS IS OF BULK AT MOST 1048576: true; the input reads as it did. -/
def evictLeastUptoRow : OpenClaim := { program := "ytjgionnigenijaa", sum := "10a0defd5ce5d407e78feb74a29767f1207a2e54c3c4d2c5cd46de497829419b", func := "drover/droverlaw17.EvictLeast", spec := "evictLeast", unfollowed := true, recurses := true, apart := false, narrowed := true }
def EvictLeastUptoSaid : Prop := evictLeastUptoRow.holds Try.pinned (OpenSpec.upto evictLeastSpec)

/-- 'droverlaw17.EvictNobody', WHERE WHAT IT READS IS OF BULK AT MOST 1048576: true; the input reads as it did. -/
def evictNobodyUptoRow : OpenClaim := { program := "ytjgionnigenijaa", sum := "10a0defd5ce5d407e78feb74a29767f1207a2e54c3c4d2c5cd46de497829419b", func := "drover/droverlaw17.EvictNobody", spec := "evictNobody", unfollowed := true, recurses := true, apart := false, narrowed := true }
def EvictNobodyUptoSaid : Prop := evictNobodyUptoRow.holds Try.pinned (OpenSpec.upto evictNobodySpec)

/-- 'droverlaw17.EvictOrder', WHERE WHAT IT READS IS OF BULK AT MOST 1048576: true; the input reads as it did. -/
def evictOrderUptoRow : OpenClaim := { program := "ytjgionnigenijaa", sum := "10a0defd5ce5d407e78feb74a29767f1207a2e54c3c4d2c5cd46de497829419b", func := "drover/droverlaw17.EvictOrder", spec := "evictOrder", unfollowed := true, recurses := true, apart := false, narrowed := true }
def EvictOrderUptoSaid : Prop := evictOrderUptoRow.holds Try.pinned (OpenSpec.upto evictOrderSpec)

/-- 'droverlaw17.EvictMore', WHERE WHAT IT READS IS OF BULK AT MOST 1048576: true; the input reads as it did. -/
def evictMoreUptoRow : OpenClaim := { program := "ytjgionnigenijaa", sum := "10a0defd5ce5d407e78feb74a29767f1207a2e54c3c4d2c5cd46de497829419b", func := "drover/droverlaw17.EvictMore", spec := "evictMore", unfollowed := true, recurses := true, apart := false, narrowed := true }
def EvictMoreUptoSaid : Prop := evictMoreUptoRow.holds Try.pinned (OpenSpec.upto evictMoreSpec)

/-- 'droverlaw17.EvictTurns', WHERE WHAT IT READS IS OF BULK AT MOST 1048576: true; the input reads as it did. -/
def evictTurnsUptoRow : OpenClaim := { program := "ytjgionnigenijaa", sum := "10a0defd5ce5d407e78feb74a29767f1207a2e54c3c4d2c5cd46de497829419b", func := "drover/droverlaw17.EvictTurns", spec := "evictTurns", unfollowed := true, recurses := true, apart := false, narrowed := true }
def EvictTurnsUptoSaid : Prop := evictTurnsUptoRow.holds Try.pinned (OpenSpec.upto evictTurnsSpec)

end Rows
end Go.Proofs.Ytjgionnigenijaa
