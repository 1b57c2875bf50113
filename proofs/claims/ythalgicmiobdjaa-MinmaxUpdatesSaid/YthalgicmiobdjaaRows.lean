/-
  No cell of these rows narrows 'for every input' (looked for: loops, veiled, ifaces, maps, wideKeys, modest, calm, conditions, laid).
  DERIVED. THE GIVEN ROWS OF THIS SEAT. 5 by the template 'for every input the law returns true; each argument reads behind the call as it read before'; 0 by the template 'total and deterministic' (their statements: YthalgicmiobdjaaTotals.lean).
  GIVEN WITH THE SEED: the statements are not yours to turn. If you find one false, say at which input.
  Laid BY PROGRAM, IN A SANDBOX (cutbox-rows.mjs): the forced cells as the released guide's own fill.sh prints them over the translation b9276faf3dc3cad0… (all of the seat's roots in one cut). By AI agents, Wed Nov 11 2026. No macro, syntax, notation, axiom, sorry.
-/
import Derived.Test.YthalgicmiobdjaaChecked
import GoSem.Claim
import GoSem.ClaimJoined
import GoSem.ClaimMapViews
import Derived.JoinedTies
import Derived.KernelRfl
namespace Go.Proofs.Ythalgicmiobdjaa
/- THE CELL 'sum', in the pinned program and in every row, IS THE sha256 OF THE DUMP (.gsa) THAT YthalgicmiobdjaaProg.lean LOADS. Nothing in Lean hashes anything: it is a label: what it is worth is what the hold of that sum in a sandbox is worth. -/
noncomputable def Try.pinned : Pinned := { name := "ythalgicmiobdjaa", sum := "b9276faf3dc3cad009f8071fdfc28ea4a8f28e65f55da9efcb642972b0ccff0e", checked := Try.checked }
namespace Rows
def none {H : Type} : Left H := { results := [], args := [] }

/-- 'droverlaw09.MinmaxSorts': WHATEVER THE INPUT: true; the input reads as it did. -/
def minmaxSortsSpec : ChangeSpec := { name := "minmaxSorts", fn := fun _ => fun
  | [d] => { results := [.lit (.bool true)], args := [d] }
  | _ => none }
def minmaxSortsRow : OpenClaim := { program := "ythalgicmiobdjaa", sum := "b9276faf3dc3cad009f8071fdfc28ea4a8f28e65f55da9efcb642972b0ccff0e", func := "drover/droverlaw09.MinmaxSorts", spec := "minmaxSorts", apart := false }
def MinmaxSortsSaid : Prop := minmaxSortsRow.holds Try.pinned (OpenSpec.ofChange minmaxSortsSpec)

/-- ITS FALSE NEIGHBOUR: 'it returns false'. Refute it at one input. -/
def minmaxSortsWrong : ChangeSpec := { name := "minmaxSorts", fn := fun _ => fun
  | [d] => { results := [.lit (.bool false)], args := [d] }
  | _ => none }
def MinmaxSortsWrongFalsely : Prop := minmaxSortsRow.holds Try.pinned (OpenSpec.ofChange minmaxSortsWrong)

/-- 'droverlaw09.MinmaxBoth': WHATEVER THE INPUT: true; the input reads as it did. -/
def minmaxBothSpec : ChangeSpec := { name := "minmaxBoth", fn := fun _ => fun
  | [d1, d2] => { results := [.lit (.bool true)], args := [d1, d2] }
  | _ => none }
def minmaxBothRow : OpenClaim := { program := "ythalgicmiobdjaa", sum := "b9276faf3dc3cad009f8071fdfc28ea4a8f28e65f55da9efcb642972b0ccff0e", func := "drover/droverlaw09.MinmaxBoth", spec := "minmaxBoth", apart := false }
def MinmaxBothSaid : Prop := minmaxBothRow.holds Try.pinned (OpenSpec.ofChange minmaxBothSpec)

/-- ITS FALSE NEIGHBOUR: 'it returns false'. Refute it at one input. -/
def minmaxBothWrong : ChangeSpec := { name := "minmaxBoth", fn := fun _ => fun
  | [d1, d2] => { results := [.lit (.bool false)], args := [d1, d2] }
  | _ => none }
def MinmaxBothWrongFalsely : Prop := minmaxBothRow.holds Try.pinned (OpenSpec.ofChange minmaxBothWrong)

/-- 'droverlaw09.MinmaxUpdates': WHATEVER THE INPUT: true; the input reads as it did. -/
def minmaxUpdatesSpec : ChangeSpec := { name := "minmaxUpdates", fn := fun _ => fun
  | [d1, d2] => { results := [.lit (.bool true)], args := [d1, d2] }
  | _ => none }
def minmaxUpdatesRow : OpenClaim := { program := "ythalgicmiobdjaa", sum := "b9276faf3dc3cad009f8071fdfc28ea4a8f28e65f55da9efcb642972b0ccff0e", func := "drover/droverlaw09.MinmaxUpdates", spec := "minmaxUpdates", apart := false }
def MinmaxUpdatesSaid : Prop := minmaxUpdatesRow.holds Try.pinned (OpenSpec.ofChange minmaxUpdatesSpec)

/-- ITS FALSE NEIGHBOUR: 'it returns false'. Refute it at one input. -/
def minmaxUpdatesWrong : ChangeSpec := { name := "minmaxUpdates", fn := fun _ => fun
  | [d1, d2] => { results := [.lit (.bool false)], args := [d1, d2] }
  | _ => none }
def MinmaxUpdatesWrongFalsely : Prop := minmaxUpdatesRow.holds Try.pinned (OpenSpec.ofChange minmaxUpdatesWrong)

/-- 'droverlaw09.MinmaxPlays': WHATEVER THE INPUT: true; the input reads as it did. -/
def minmaxPlaysSpec : ChangeSpec := { name := "minmaxPlays", fn := fun _ => fun
  | [d] => { results := [.lit (.bool true)], args := [d] }
  | _ => none }
def minmaxPlaysRow : OpenClaim := { program := "ythalgicmiobdjaa", sum := "b9276faf3dc3cad009f8071fdfc28ea4a8f28e65f55da9efcb642972b0ccff0e", func := "drover/droverlaw09.MinmaxPlays", spec := "minmaxPlays", apart := false }
def MinmaxPlaysSaid : Prop := minmaxPlaysRow.holds Try.pinned (OpenSpec.ofChange minmaxPlaysSpec)

/-- ITS FALSE NEIGHBOUR: 'it returns false'. Refute it at one input. -/
def minmaxPlaysWrong : ChangeSpec := { name := "minmaxPlays", fn := fun _ => fun
  | [d] => { results := [.lit (.bool false)], args := [d] }
  | _ => none }
def MinmaxPlaysWrongFalsely : Prop := minmaxPlaysRow.holds Try.pinned (OpenSpec.ofChange minmaxPlaysWrong)

/-- 'droverlaw09.MinmaxNil': WHATEVER THE INPUT: true; the input reads as it did. -/
def minmaxNilSpec : ChangeSpec := { name := "minmaxNil", fn := fun _ => fun
  | [d1, d2] => { results := [.lit (.bool true)], args := [d1, d2] }
  | _ => none }
def minmaxNilRow : OpenClaim := { program := "ythalgicmiobdjaa", sum := "b9276faf3dc3cad009f8071fdfc28ea4a8f28e65f55da9efcb642972b0ccff0e", func := "drover/droverlaw09.MinmaxNil", spec := "minmaxNil", apart := false }
def MinmaxNilSaid : Prop := minmaxNilRow.holds Try.pinned (OpenSpec.ofChange minmaxNilSpec)

/-- ITS FALSE NEIGHBOUR: 'it returns false'. Refute it at one input. -/
def minmaxNilWrong : ChangeSpec := { name := "minmaxNil", fn := fun _ => fun
  | [d1, d2] => { results := [.lit (.bool false)], args := [d1, d2] }
  | _ => none }
def MinmaxNilWrongFalsely : Prop := minmaxNilRow.holds Try.pinned (OpenSpec.ofChange minmaxNilWrong)

/- THE SECOND FORM. 'bulk': how many values and letters a reading holds, each counted each time it is reached (what is shared counts as often as it is met; a slice's spare places count too). A statement '..UptoSaid' is the law's where the arguments, and the package variables that the reading takes, are together of bulk at most 1048576: NARROWER than '..Said'. Prove '..Said' where nothing that the law and all that it calls make is longer than what came in: it says more and counts as full. Else prove '..UptoSaid'. A law counts once. -/
mutual
def uptoBulk {H : Type} : DataW H → Nat
  | .lit (.string bytes) => bytes.length + 1
  | .lit _ => 1
  | .nil => 1
  | .ptr d => uptoBulk d + 1
  | .slice elems spare => uptoBulkAll elems + uptoBulkAll spare + 1
  | .agg parts => uptoBulkAll parts + 1
  | .iface _ d => uptoBulk d + 1
  | .map entries => uptoBulkEntries entries + 1
  | .held _ => 1
def uptoBulkAll {H : Type} : List (DataW H) → Nat
  | [] => 0
  | d :: r => uptoBulk d + uptoBulkAll r
def uptoBulkEntries {H : Type} : List (Lit × DataW H) → Nat
  | [] => 0
  | x :: r => uptoBulkEntry x + uptoBulkEntries r
def uptoBulkEntry {H : Type} : Lit × DataW H → Nat
  | (.string bytes, d) => bytes.length + uptoBulk d + 1
  | (_, d) => uptoBulk d + 1
 end
def uptoSmall : (H : Type) → List (DataW H) → Bool := fun _ ds => decide (uptoBulkAll ds ≤ 1048576)
def OpenSpec.upto (s : _root_.Go.ChangeSpec) : _root_.Go.OpenSpec := { _root_.Go.OpenSpec.ofChange s with cond := some uptoSmall }

/-- 'droverlaw09.MinmaxSorts', WHERE WHAT IT READS IS OF BULK AT MOST 1048576: true; the input reads as it did. -/
def minmaxSortsUptoRow : OpenClaim := { program := "ythalgicmiobdjaa", sum := "b9276faf3dc3cad009f8071fdfc28ea4a8f28e65f55da9efcb642972b0ccff0e", func := "drover/droverlaw09.MinmaxSorts", spec := "minmaxSorts", apart := false, narrowed := true }
def MinmaxSortsUptoSaid : Prop := minmaxSortsUptoRow.holds Try.pinned (OpenSpec.upto minmaxSortsSpec)

/-- 'droverlaw09.MinmaxBoth', WHERE WHAT IT READS IS OF BULK AT MOST 1048576: true; the input reads as it did. -/
def minmaxBothUptoRow : OpenClaim := { program := "ythalgicmiobdjaa", sum := "b9276faf3dc3cad009f8071fdfc28ea4a8f28e65f55da9efcb642972b0ccff0e", func := "drover/droverlaw09.MinmaxBoth", spec := "minmaxBoth", apart := false, narrowed := true }
def MinmaxBothUptoSaid : Prop := minmaxBothUptoRow.holds Try.pinned (OpenSpec.upto minmaxBothSpec)

/-- 'droverlaw09.MinmaxUpdates', WHERE WHAT IT READS IS OF BULK AT MOST 1048576: true; the input reads as it did. -/
def minmaxUpdatesUptoRow : OpenClaim := { program := "ythalgicmiobdjaa", sum := "b9276faf3dc3cad009f8071fdfc28ea4a8f28e65f55da9efcb642972b0ccff0e", func := "drover/droverlaw09.MinmaxUpdates", spec := "minmaxUpdates", apart := false, narrowed := true }
def MinmaxUpdatesUptoSaid : Prop := minmaxUpdatesUptoRow.holds Try.pinned (OpenSpec.upto minmaxUpdatesSpec)

/-- 'droverlaw09.MinmaxPlays', WHERE WHAT IT READS IS OF BULK AT MOST 1048576: true; the input reads as it did. -/
def minmaxPlaysUptoRow : OpenClaim := { program := "ythalgicmiobdjaa", sum := "b9276faf3dc3cad009f8071fdfc28ea4a8f28e65f55da9efcb642972b0ccff0e", func := "drover/droverlaw09.MinmaxPlays", spec := "minmaxPlays", apart := false, narrowed := true }
def MinmaxPlaysUptoSaid : Prop := minmaxPlaysUptoRow.holds Try.pinned (OpenSpec.upto minmaxPlaysSpec)

/-- 'droverlaw09.MinmaxNil', WHERE WHAT IT READS IS OF BULK AT MOST 1048576: true; the input reads as it did. -/
def minmaxNilUptoRow : OpenClaim := { program := "ythalgicmiobdjaa", sum := "b9276faf3dc3cad009f8071fdfc28ea4a8f28e65f55da9efcb642972b0ccff0e", func := "drover/droverlaw09.MinmaxNil", spec := "minmaxNil", apart := false, narrowed := true }
def MinmaxNilUptoSaid : Prop := minmaxNilUptoRow.holds Try.pinned (OpenSpec.upto minmaxNilSpec)

end Rows
end Go.Proofs.Ythalgicmiobdjaa
