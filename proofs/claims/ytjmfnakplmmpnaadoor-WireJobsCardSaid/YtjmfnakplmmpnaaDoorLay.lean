/-
  DERIVED: THE SHELF's CONTRACTS AT THIS DUMP, IN PLAIN WORDS (tools/lay-plain.mjs out of 'YtjmfnakplmmpnaaDoorLay.lean', which tools/lay-shelf.mjs wrote): THE SAME DECLARATIONS UNDER THE SAME NAMES: 'import', 'namespace', 'open', 'def', 'theorem' AND NOTHING ELSE: no command of the shelf's: FOR A HAND-IN. Each laying: the table of numbers ('.._ren') and one theorem, a field a fact of the dump's own or the kernel's comparison; each contract: ONE APPLICATION.
-/
import Derived.Shelf.Bytes.GrowSlice
import Derived.Ground.NamesProg
import Derived.Test.YtjmfnakplmmpnaaDoorProg
namespace Go.Proofs
open Go.Shelf
def Tryd.lay290_ren : Go.Shelf.Ren := ⟨fun | 290 => 76 | 324 => 79 | n => n, fun | 37 => 41 | 3 => 3 | 0 => 0 | 4 => 4 | 20 => 20 | 75 => 99 | 5 => 5 | 80 => 139 | 9 => 9 | n => n, fun | 14 => 0 | n => n⟩
theorem Tryd.lay290 : Go.Proofs.LaysM.n290 Tryd.prog Tryd.lay290_ren := {
  mixed := by kernel_rfl
  f290 := Tryd.func76.trans (congrArg some (by kernel_rfl))
  f324 := Tryd.func79.trans (congrArg some (by kernel_rfl))
  t0 := Tryd.underlying0
  a0 := Tryd.isAgg0
  z0 := Tryd.sizeOf0
  v0 := Tryd.zeroValue0
  t3 := Tryd.underlying3
  a3 := Tryd.isAgg3
  z3 := Tryd.sizeOf3
  v3 := Tryd.zeroValue3
  t4 := Tryd.underlying4
  a4 := Tryd.isAgg4
  z4 := Tryd.sizeOf4
  v4 := Tryd.zeroValue4
  t20 := Tryd.underlying20
  a20 := Tryd.isAgg20
  z20 := Tryd.sizeOf20
  v20 := Tryd.zeroValue20
  t37 := Tryd.underlying41
  a37 := Tryd.isAgg41
  z37 := Tryd.sizeOf41
  v37 := Tryd.zeroValue41
  t75 := Tryd.underlying99
  a75 := Tryd.isAgg99
  z75 := Tryd.sizeOf99
  v75 := Tryd.zeroValue99
  g14 := by kernel_rfl
  t5 := Tryd.underlying5
  a5 := Tryd.isAgg5
  z5 := Tryd.sizeOf5
  v5 := Tryd.zeroValue5
  t9 := Tryd.underlying9
  a9 := Tryd.isAgg9
  z9 := Tryd.sizeOf9
  v9 := Tryd.zeroValue9
  t80 := Tryd.underlying139
  a80 := Tryd.isAgg139
  z80 := Tryd.sizeOf139
  v80 := Tryd.zeroValue139
  i0 := by kernel_rfl
  i3 := by kernel_rfl
  i4 := by kernel_rfl
  i5 := by kernel_rfl
  i9 := by kernel_rfl
  i20 := by kernel_rfl
  i37 := by kernel_rfl
  i75 := by kernel_rfl
  i80 := by kernel_rfl
  m14 := by kernel_rfl }
end Go.Proofs
