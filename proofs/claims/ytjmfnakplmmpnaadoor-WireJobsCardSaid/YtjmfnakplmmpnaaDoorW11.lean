import Derived.Test.YtjmfnakplmmpnaaDoorRows
import Derived.LaidLaws
import Derived.JoinedOf
import Derived.KernelRfl
/-! A start at which the laid variable reads as the row says. -/
namespace Go.Proofs.YtjmfnakplmmpnaaDoor
open Go
set_option maxRecDepth 100000
abbrev etlS : ByteArray := { data := #[98, 121, 116, 101, 115, 46, 66, 117, 102, 102, 101, 114, 58, 32, 116, 111, 111, 32, 108, 97, 114, 103, 101] }
noncomputable def low : Nat := (World.holding Tryd.prog default ⟨#[], #[], []⟩).heap.size
noncomputable def laidWorld (os : Os) : World :=
  let w0 := World.holding Tryd.prog os ⟨#[.cells #[.string etlS] 163], #[], []⟩
  { w0 with heap := w0.heap.modify 0 fun
      | .cells _ t frozen => .cells #[.iface 147 (.pointer (some ⟨low, 0, none⟩))] t frozen
      | o => o }
theorem laidWorld_met (os : Os) (args : Array Value) : laidMet Tryd.prog [("bytes.ErrTooLarge", Rows.laid_bytes_ErrTooLarge)] ((laidWorld os).forCall (fun _ _ => 0) ⟨#[], args, []⟩).memory :=
  laidMet_of_run (ps := [.cell 0 0, .cell low 0]) 8 (by kernel_rfl) (by kernel_rfl) (by kernel_rfl)
end Go.Proofs.YtjmfnakplmmpnaaDoor
