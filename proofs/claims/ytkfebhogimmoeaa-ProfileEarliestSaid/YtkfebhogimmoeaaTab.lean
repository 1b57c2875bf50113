import Derived.Test.YtkfebhogimmoeaaSlE
import Derived.Test.YtkfebhogimmoeaaProg
/-! The types of the program as a table; each function with its body (written by program). -/
namespace Go.Proofs.Ytkfebhogimmoeaa
open Go.Sl
set_option linter.unusedVariables false
set_option maxRecDepth 100000
noncomputable def und : TypeId → Option TypeDesc
  | 0 => some (TypeDesc.tuple #[])
  | 1 => some (TypeDesc.func #[] #[] false)
  | 2 => some (TypeDesc.int IntKind.i64)
  | 3 => some (TypeDesc.int IntKind.i64)
  | 4 => some TypeDesc.bool
  | 5 => some (TypeDesc.int IntKind.u8)
  | 6 => some (TypeDesc.int IntKind.u8)
  | 7 => some (TypeDesc.struct #[{ name := "x", type := 2, offset := 0, embedded := false, tag := "", pkgPath := "runtime", byteOffset := 0 }, { name := "y", type := 3, offset := 1, embedded := false, tag := "", pkgPath := "runtime", byteOffset := 8 }, { name := "signed", type := 4, offset := 2, embedded := false, tag := "", pkgPath := "runtime", byteOffset := 16 }, { name := "code", type := 6, offset := 3, embedded := false, tag := "", pkgPath := "runtime", byteOffset := 17 }])
  | 8 => some (TypeDesc.struct #[{ name := "x", type := 2, offset := 0, embedded := false, tag := "", pkgPath := "runtime", byteOffset := 0 }, { name := "y", type := 3, offset := 1, embedded := false, tag := "", pkgPath := "runtime", byteOffset := 8 }, { name := "signed", type := 4, offset := 2, embedded := false, tag := "", pkgPath := "runtime", byteOffset := 16 }, { name := "code", type := 6, offset := 3, embedded := false, tag := "", pkgPath := "runtime", byteOffset := 17 }])
  | 9 => some TypeDesc.string
  | 10 => some TypeDesc.string
  | 11 => some TypeDesc.string
  | 12 => some (TypeDesc.int IntKind.u64)
  | 13 => some (TypeDesc.struct #[{ name := "msg", type := 9, offset := 0, embedded := false, tag := "", pkgPath := "runtime", byteOffset := 0 }, { name := "addr", type := 12, offset := 1, embedded := false, tag := "", pkgPath := "runtime", byteOffset := 16 }])
  | 14 => some (TypeDesc.struct #[{ name := "msg", type := 9, offset := 0, embedded := false, tag := "", pkgPath := "runtime", byteOffset := 0 }, { name := "addr", type := 12, offset := 1, embedded := false, tag := "", pkgPath := "runtime", byteOffset := 16 }])
  | 15 => some (TypeDesc.pointer 81)
  | 16 => some (TypeDesc.pointer 84)
  | 17 => some (TypeDesc.pointer 94)
  | 18 => some (TypeDesc.struct #[{ name := "typ", type := 17, offset := 0, embedded := false, tag := "", pkgPath := "internal/runtime/maps", byteOffset := 0 }])
  | 19 => some (TypeDesc.struct #[{ name := "typ", type := 17, offset := 0, embedded := false, tag := "", pkgPath := "internal/runtime/maps", byteOffset := 0 }])
  | 20 => some (TypeDesc.interface #[])
  | 21 => some (TypeDesc.int IntKind.i32)
  | 22 => some (TypeDesc.array 4 2)
  | 23 => some (TypeDesc.array 4 2)
  | 24 => some (TypeDesc.slice 32)
  | 25 => some (TypeDesc.func #[] #[4] false)
  | 26 => some (TypeDesc.pointer 58)
  | 27 => some (TypeDesc.int IntKind.i64)
  | 28 => some (TypeDesc.tuple #[26, 27])
  | 29 => some (TypeDesc.func #[23] #[26, 27] false)
  | 30 => some (TypeDesc.func #[2, 2, 23] #[27] false)
  | 31 => some (TypeDesc.struct #[{ name := "Kind", type := 3, offset := 0, embedded := false, tag := "", pkgPath := "", byteOffset := 0 }, { name := "From", type := 2, offset := 1, embedded := false, tag := "", pkgPath := "", byteOffset := 8 }, { name := "To", type := 2, offset := 2, embedded := false, tag := "", pkgPath := "", byteOffset := 16 }, { name := "V", type := 23, offset := 3, embedded := false, tag := "", pkgPath := "", byteOffset := 24 }])
  | 32 => some (TypeDesc.struct #[{ name := "Kind", type := 3, offset := 0, embedded := false, tag := "", pkgPath := "", byteOffset := 0 }, { name := "From", type := 2, offset := 1, embedded := false, tag := "", pkgPath := "", byteOffset := 8 }, { name := "To", type := 2, offset := 2, embedded := false, tag := "", pkgPath := "", byteOffset := 16 }, { name := "V", type := 23, offset := 3, embedded := false, tag := "", pkgPath := "", byteOffset := 24 }])
  | 33 => some (TypeDesc.slice 37)
  | 34 => some (TypeDesc.func #[] #[33] false)
  | 35 => some (TypeDesc.func #[23] #[4] false)
  | 36 => some (TypeDesc.struct #[{ name := "At", type := 2, offset := 0, embedded := false, tag := "", pkgPath := "", byteOffset := 0 }, { name := "Free", type := 23, offset := 1, embedded := false, tag := "", pkgPath := "", byteOffset := 8 }])
  | 37 => some (TypeDesc.struct #[{ name := "At", type := 2, offset := 0, embedded := false, tag := "", pkgPath := "", byteOffset := 0 }, { name := "Free", type := 23, offset := 1, embedded := false, tag := "", pkgPath := "", byteOffset := 8 }])
  | 38 => some (TypeDesc.func #[23, 23] #[4] false)
  | 39 => some (TypeDesc.func #[2] #[23] false)
  | 40 => some (TypeDesc.func #[23, 24] #[4] false)
  | 41 => some (TypeDesc.array 2 23)
  | 42 => some (TypeDesc.array 2 2)
  | 43 => some (TypeDesc.tuple #[2, 27])
  | 44 => some (TypeDesc.func #[2, 2, 23] #[2, 27] false)
  | 45 => some (TypeDesc.tuple #[23, 27])
  | 46 => some (TypeDesc.func #[2, 2] #[23, 27] false)
  | 47 => some (TypeDesc.func #[41, 24, 42] #[4] false)
  | 48 => some (TypeDesc.pointer 51)
  | 49 => some (TypeDesc.slice 74)
  | 50 => some (TypeDesc.struct #[{ name := "Capacity", type := 23, offset := 0, embedded := false, tag := "", pkgPath := "", byteOffset := 0 }, { name := "L", type := 49, offset := 4, embedded := false, tag := "", pkgPath := "", byteOffset := 32 }])
  | 51 => some (TypeDesc.struct #[{ name := "Capacity", type := 23, offset := 0, embedded := false, tag := "", pkgPath := "", byteOffset := 0 }, { name := "L", type := 49, offset := 4, embedded := false, tag := "", pkgPath := "", byteOffset := 32 }])
  | 52 => some (TypeDesc.func #[26, 48, 32] #[4] false)
  | 53 => some (TypeDesc.func #[33, 54] #[4] false)
  | 54 => some (TypeDesc.slice 66)
  | 55 => some (TypeDesc.func #[] #[54] false)
  | 56 => some (TypeDesc.func #[2, 2, 23] #[4] false)
  | 57 => some (TypeDesc.struct #[{ name := "capacity", type := 23, offset := 0, embedded := false, tag := "", pkgPath := "drover/profile", byteOffset := 0 }, { name := "steps", type := 33, offset := 4, embedded := false, tag := "", pkgPath := "drover/profile", byteOffset := 32 }, { name := "takes", type := 3, offset := 5, embedded := false, tag := "", pkgPath := "drover/profile", byteOffset := 56 }])
  | 58 => some (TypeDesc.struct #[{ name := "capacity", type := 23, offset := 0, embedded := false, tag := "", pkgPath := "drover/profile", byteOffset := 0 }, { name := "steps", type := 33, offset := 4, embedded := false, tag := "", pkgPath := "drover/profile", byteOffset := 32 }, { name := "takes", type := 3, offset := 5, embedded := false, tag := "", pkgPath := "drover/profile", byteOffset := 56 }])
  | 59 => some (TypeDesc.func #[2, 2] #[4] false)
  | 60 => some (TypeDesc.func #[2] #[] false)
  | 61 => some (TypeDesc.func #[2] #[3] false)
  | 62 => some (TypeDesc.func #[23, 23] #[23, 27] false)
  | 63 => some (TypeDesc.func #[33, 64] #[33] false)
  | 64 => some (TypeDesc.func #[37] #[4] false)
  | 65 => some (TypeDesc.func #[33] #[33] false)
  | 66 => some (TypeDesc.struct #[{ name := "At", type := 2, offset := 0, embedded := false, tag := "", pkgPath := "", byteOffset := 0 }, { name := "Free", type := 23, offset := 1, embedded := false, tag := "", pkgPath := "", byteOffset := 8 }])
  | 67 => some (TypeDesc.slice 2)
  | 68 => some (TypeDesc.func #[] #[67] false)
  | 69 => some (TypeDesc.func #[33, 3, 33] #[33] true)
  | 70 => some (TypeDesc.func #[3, 71] #[3] false)
  | 71 => some (TypeDesc.func #[3] #[4] false)
  | 72 => some (TypeDesc.func #[33, 64] #[3] false)
  | 73 => some (TypeDesc.struct #[{ name := "From", type := 2, offset := 0, embedded := false, tag := "", pkgPath := "", byteOffset := 0 }, { name := "To", type := 2, offset := 1, embedded := false, tag := "", pkgPath := "", byteOffset := 8 }, { name := "V", type := 23, offset := 2, embedded := false, tag := "", pkgPath := "", byteOffset := 16 }])
  | 74 => some (TypeDesc.struct #[{ name := "From", type := 2, offset := 0, embedded := false, tag := "", pkgPath := "", byteOffset := 0 }, { name := "To", type := 2, offset := 1, embedded := false, tag := "", pkgPath := "", byteOffset := 8 }, { name := "V", type := 23, offset := 2, embedded := false, tag := "", pkgPath := "", byteOffset := 16 }])
  | 75 => some (TypeDesc.func #[33, 33] #[4] false)
  | 76 => some (TypeDesc.func #[33, 3] #[] false)
  | 77 => some (TypeDesc.int IntKind.u64)
  | 78 => some (TypeDesc.func #[33] #[] false)
  | 79 => some (TypeDesc.func #[] #[9] false)
  | 80 => some (TypeDesc.struct #[{ name := "_interface", type := 17, offset := 0, embedded := false, tag := "", pkgPath := "runtime", byteOffset := 0 }, { name := "concrete", type := 17, offset := 1, embedded := false, tag := "", pkgPath := "runtime", byteOffset := 8 }, { name := "asserted", type := 17, offset := 2, embedded := false, tag := "", pkgPath := "runtime", byteOffset := 16 }, { name := "missingMethod", type := 9, offset := 3, embedded := false, tag := "", pkgPath := "runtime", byteOffset := 24 }])
  | 81 => some (TypeDesc.struct #[{ name := "_interface", type := 17, offset := 0, embedded := false, tag := "", pkgPath := "runtime", byteOffset := 0 }, { name := "concrete", type := 17, offset := 1, embedded := false, tag := "", pkgPath := "runtime", byteOffset := 8 }, { name := "asserted", type := 17, offset := 2, embedded := false, tag := "", pkgPath := "runtime", byteOffset := 16 }, { name := "missingMethod", type := 9, offset := 3, embedded := false, tag := "", pkgPath := "runtime", byteOffset := 24 }])
  | 82 => some (TypeDesc.array 0 16)
  | 83 => some (TypeDesc.struct #[{ name := "_", type := 82, offset := 0, embedded := false, tag := "", pkgPath := "runtime", byteOffset := 0 }])
  | 84 => some (TypeDesc.struct #[{ name := "_", type := 82, offset := 0, embedded := false, tag := "", pkgPath := "runtime", byteOffset := 0 }])
  | 85 => some (TypeDesc.func #[] #[3] false)
  | 86 => some (TypeDesc.int IntKind.u32)
  | 87 => some (TypeDesc.int IntKind.u8)
  | 88 => some (TypeDesc.int IntKind.u8)
  | 89 => some (TypeDesc.func #[95, 95] #[4] false)
  | 90 => some (TypeDesc.pointer 5)
  | 91 => some (TypeDesc.int IntKind.i32)
  | 92 => some (TypeDesc.int IntKind.i32)
  | 93 => some (TypeDesc.struct #[{ name := "Size_", type := 12, offset := 0, embedded := false, tag := "", pkgPath := "", byteOffset := 0 }, { name := "PtrBytes", type := 12, offset := 1, embedded := false, tag := "", pkgPath := "", byteOffset := 8 }, { name := "Hash", type := 86, offset := 2, embedded := false, tag := "", pkgPath := "", byteOffset := 16 }, { name := "TFlag", type := 87, offset := 3, embedded := false, tag := "", pkgPath := "", byteOffset := 20 }, { name := "Align_", type := 5, offset := 4, embedded := false, tag := "", pkgPath := "", byteOffset := 21 }, { name := "FieldAlign_", type := 5, offset := 5, embedded := false, tag := "", pkgPath := "", byteOffset := 22 }, { name := "Kind_", type := 88, offset := 6, embedded := false, tag := "", pkgPath := "", byteOffset := 23 }, { name := "Equal", type := 89, offset := 7, embedded := false, tag := "", pkgPath := "", byteOffset := 24 }, { name := "GCData", type := 90, offset := 8, embedded := false, tag := "", pkgPath := "", byteOffset := 32 }, { name := "Str", type := 91, offset := 9, embedded := false, tag := "", pkgPath := "", byteOffset := 40 }, { name := "PtrToThis", type := 92, offset := 10, embedded := false, tag := "", pkgPath := "", byteOffset := 44 }])
  | 94 => some (TypeDesc.struct #[{ name := "Size_", type := 12, offset := 0, embedded := false, tag := "", pkgPath := "", byteOffset := 0 }, { name := "PtrBytes", type := 12, offset := 1, embedded := false, tag := "", pkgPath := "", byteOffset := 8 }, { name := "Hash", type := 86, offset := 2, embedded := false, tag := "", pkgPath := "", byteOffset := 16 }, { name := "TFlag", type := 87, offset := 3, embedded := false, tag := "", pkgPath := "", byteOffset := 20 }, { name := "Align_", type := 5, offset := 4, embedded := false, tag := "", pkgPath := "", byteOffset := 21 }, { name := "FieldAlign_", type := 5, offset := 5, embedded := false, tag := "", pkgPath := "", byteOffset := 22 }, { name := "Kind_", type := 88, offset := 6, embedded := false, tag := "", pkgPath := "", byteOffset := 23 }, { name := "Equal", type := 89, offset := 7, embedded := false, tag := "", pkgPath := "", byteOffset := 24 }, { name := "GCData", type := 90, offset := 8, embedded := false, tag := "", pkgPath := "", byteOffset := 32 }, { name := "Str", type := 91, offset := 9, embedded := false, tag := "", pkgPath := "", byteOffset := 40 }, { name := "PtrToThis", type := 92, offset := 10, embedded := false, tag := "", pkgPath := "", byteOffset := 44 }])
  | 95 => some TypeDesc.unsafePointer
  | _ => none
set_option maxHeartbeats 4000000 in
theorem und_ok : ∀ t d, und t = some d → Try.prog.underlying t = some d := by
  intro t d h
  unfold und at h
  split at h
  · exact h ▸ Try.underlying0
  · exact h ▸ Try.underlying1
  · exact h ▸ Try.underlying2
  · exact h ▸ Try.underlying3
  · exact h ▸ Try.underlying4
  · exact h ▸ Try.underlying5
  · exact h ▸ Try.underlying6
  · exact h ▸ Try.underlying7
  · exact h ▸ Try.underlying8
  · exact h ▸ Try.underlying9
  · exact h ▸ Try.underlying10
  · exact h ▸ Try.underlying11
  · exact h ▸ Try.underlying12
  · exact h ▸ Try.underlying13
  · exact h ▸ Try.underlying14
  · exact h ▸ Try.underlying15
  · exact h ▸ Try.underlying16
  · exact h ▸ Try.underlying17
  · exact h ▸ Try.underlying18
  · exact h ▸ Try.underlying19
  · exact h ▸ Try.underlying20
  · exact h ▸ Try.underlying21
  · exact h ▸ Try.underlying22
  · exact h ▸ Try.underlying23
  · exact h ▸ Try.underlying24
  · exact h ▸ Try.underlying25
  · exact h ▸ Try.underlying26
  · exact h ▸ Try.underlying27
  · exact h ▸ Try.underlying28
  · exact h ▸ Try.underlying29
  · exact h ▸ Try.underlying30
  · exact h ▸ Try.underlying31
  · exact h ▸ Try.underlying32
  · exact h ▸ Try.underlying33
  · exact h ▸ Try.underlying34
  · exact h ▸ Try.underlying35
  · exact h ▸ Try.underlying36
  · exact h ▸ Try.underlying37
  · exact h ▸ Try.underlying38
  · exact h ▸ Try.underlying39
  · exact h ▸ Try.underlying40
  · exact h ▸ Try.underlying41
  · exact h ▸ Try.underlying42
  · exact h ▸ Try.underlying43
  · exact h ▸ Try.underlying44
  · exact h ▸ Try.underlying45
  · exact h ▸ Try.underlying46
  · exact h ▸ Try.underlying47
  · exact h ▸ Try.underlying48
  · exact h ▸ Try.underlying49
  · exact h ▸ Try.underlying50
  · exact h ▸ Try.underlying51
  · exact h ▸ Try.underlying52
  · exact h ▸ Try.underlying53
  · exact h ▸ Try.underlying54
  · exact h ▸ Try.underlying55
  · exact h ▸ Try.underlying56
  · exact h ▸ Try.underlying57
  · exact h ▸ Try.underlying58
  · exact h ▸ Try.underlying59
  · exact h ▸ Try.underlying60
  · exact h ▸ Try.underlying61
  · exact h ▸ Try.underlying62
  · exact h ▸ Try.underlying63
  · exact h ▸ Try.underlying64
  · exact h ▸ Try.underlying65
  · exact h ▸ Try.underlying66
  · exact h ▸ Try.underlying67
  · exact h ▸ Try.underlying68
  · exact h ▸ Try.underlying69
  · exact h ▸ Try.underlying70
  · exact h ▸ Try.underlying71
  · exact h ▸ Try.underlying72
  · exact h ▸ Try.underlying73
  · exact h ▸ Try.underlying74
  · exact h ▸ Try.underlying75
  · exact h ▸ Try.underlying76
  · exact h ▸ Try.underlying77
  · exact h ▸ Try.underlying78
  · exact h ▸ Try.underlying79
  · exact h ▸ Try.underlying80
  · exact h ▸ Try.underlying81
  · exact h ▸ Try.underlying82
  · exact h ▸ Try.underlying83
  · exact h ▸ Try.underlying84
  · exact h ▸ Try.underlying85
  · exact h ▸ Try.underlying86
  · exact h ▸ Try.underlying87
  · exact h ▸ Try.underlying88
  · exact h ▸ Try.underlying89
  · exact h ▸ Try.underlying90
  · exact h ▸ Try.underlying91
  · exact h ▸ Try.underlying92
  · exact h ▸ Try.underlying93
  · exact h ▸ Try.underlying94
  · exact h ▸ Try.underlying95
  · cases h
noncomputable def inf : TypeId → Option (Value × Nat × Nat)
  | 0 => some ((.tuple #[]), 1, 0)
  | 1 => some (.nilFunc, 1, 8)
  | 2 => some ((.int .i64 0), 1, 8)
  | 3 => some ((.int .i64 0), 1, 8)
  | 4 => some ((.bool false), 1, 1)
  | 5 => some ((.int .u8 0), 1, 1)
  | 6 => some ((.int .u8 0), 1, 1)
  | 7 => some ((.agg #[(.int .i64 0), (.int .i64 0), (.bool false), (.int .u8 0)]), 4, 24)
  | 8 => some ((.agg #[(.int .i64 0), (.int .i64 0), (.bool false), (.int .u8 0)]), 4, 24)
  | 9 => some ((.string ⟨#[]⟩), 1, 16)
  | 10 => some ((.string ⟨#[]⟩), 1, 16)
  | 11 => some ((.string ⟨#[]⟩), 1, 16)
  | 12 => some ((.int .u64 0), 1, 8)
  | 13 => some ((.agg #[(.string ⟨#[]⟩), (.int .u64 0)]), 2, 24)
  | 14 => some ((.agg #[(.string ⟨#[]⟩), (.int .u64 0)]), 2, 24)
  | 15 => some ((.pointer none), 1, 8)
  | 16 => some ((.pointer none), 1, 8)
  | 17 => some ((.pointer none), 1, 8)
  | 18 => some ((.agg #[(.pointer none)]), 1, 8)
  | 19 => some ((.agg #[(.pointer none)]), 1, 8)
  | 20 => some (.nilIface, 1, 16)
  | 21 => some ((.int .i32 0), 1, 4)
  | 22 => some ((.agg #[(.int .i64 0), (.int .i64 0), (.int .i64 0), (.int .i64 0)]), 4, 32)
  | 23 => some ((.agg #[(.int .i64 0), (.int .i64 0), (.int .i64 0), (.int .i64 0)]), 4, 32)
  | 24 => some ((.slice none 0 0), 1, 24)
  | 25 => some (.nilFunc, 1, 8)
  | 26 => some ((.pointer none), 1, 8)
  | 27 => some ((.int .i64 0), 1, 8)
  | 28 => some ((.tuple #[(.pointer none), (.int .i64 0)]), 1, 0)
  | 29 => some (.nilFunc, 1, 8)
  | 30 => some (.nilFunc, 1, 8)
  | 31 => some ((.agg #[(.int .i64 0), (.int .i64 0), (.int .i64 0), (.int .i64 0), (.int .i64 0), (.int .i64 0), (.int .i64 0)]), 7, 56)
  | 32 => some ((.agg #[(.int .i64 0), (.int .i64 0), (.int .i64 0), (.int .i64 0), (.int .i64 0), (.int .i64 0), (.int .i64 0)]), 7, 56)
  | 33 => some ((.slice none 0 0), 1, 24)
  | 34 => some (.nilFunc, 1, 8)
  | 35 => some (.nilFunc, 1, 8)
  | 36 => some ((.agg #[(.int .i64 0), (.int .i64 0), (.int .i64 0), (.int .i64 0), (.int .i64 0)]), 5, 40)
  | 37 => some ((.agg #[(.int .i64 0), (.int .i64 0), (.int .i64 0), (.int .i64 0), (.int .i64 0)]), 5, 40)
  | 38 => some (.nilFunc, 1, 8)
  | 39 => some (.nilFunc, 1, 8)
  | 40 => some (.nilFunc, 1, 8)
  | 41 => some ((.agg #[(.int .i64 0), (.int .i64 0), (.int .i64 0), (.int .i64 0), (.int .i64 0), (.int .i64 0), (.int .i64 0), (.int .i64 0)]), 8, 64)
  | 42 => some ((.agg #[(.int .i64 0), (.int .i64 0)]), 2, 16)
  | 43 => some ((.tuple #[(.int .i64 0), (.int .i64 0)]), 1, 0)
  | 44 => some (.nilFunc, 1, 8)
  | 45 => some ((.tuple #[(.agg #[(.int .i64 0), (.int .i64 0), (.int .i64 0), (.int .i64 0)]), (.int .i64 0)]), 1, 0)
  | 46 => some (.nilFunc, 1, 8)
  | 47 => some (.nilFunc, 1, 8)
  | 48 => some ((.pointer none), 1, 8)
  | 49 => some ((.slice none 0 0), 1, 24)
  | 50 => some ((.agg #[(.int .i64 0), (.int .i64 0), (.int .i64 0), (.int .i64 0), (.slice none 0 0)]), 5, 56)
  | 51 => some ((.agg #[(.int .i64 0), (.int .i64 0), (.int .i64 0), (.int .i64 0), (.slice none 0 0)]), 5, 56)
  | 52 => some (.nilFunc, 1, 8)
  | 53 => some (.nilFunc, 1, 8)
  | 54 => some ((.slice none 0 0), 1, 24)
  | 55 => some (.nilFunc, 1, 8)
  | 56 => some (.nilFunc, 1, 8)
  | 57 => some ((.agg #[(.int .i64 0), (.int .i64 0), (.int .i64 0), (.int .i64 0), (.slice none 0 0), (.int .i64 0)]), 6, 64)
  | 58 => some ((.agg #[(.int .i64 0), (.int .i64 0), (.int .i64 0), (.int .i64 0), (.slice none 0 0), (.int .i64 0)]), 6, 64)
  | 59 => some (.nilFunc, 1, 8)
  | 60 => some (.nilFunc, 1, 8)
  | 61 => some (.nilFunc, 1, 8)
  | 62 => some (.nilFunc, 1, 8)
  | 63 => some (.nilFunc, 1, 8)
  | 64 => some (.nilFunc, 1, 8)
  | 65 => some (.nilFunc, 1, 8)
  | 66 => some ((.agg #[(.int .i64 0), (.int .i64 0), (.int .i64 0), (.int .i64 0), (.int .i64 0)]), 5, 40)
  | 67 => some ((.slice none 0 0), 1, 24)
  | 68 => some (.nilFunc, 1, 8)
  | 69 => some (.nilFunc, 1, 8)
  | 70 => some (.nilFunc, 1, 8)
  | 71 => some (.nilFunc, 1, 8)
  | 72 => some (.nilFunc, 1, 8)
  | 73 => some ((.agg #[(.int .i64 0), (.int .i64 0), (.int .i64 0), (.int .i64 0), (.int .i64 0), (.int .i64 0)]), 6, 48)
  | 74 => some ((.agg #[(.int .i64 0), (.int .i64 0), (.int .i64 0), (.int .i64 0), (.int .i64 0), (.int .i64 0)]), 6, 48)
  | 75 => some (.nilFunc, 1, 8)
  | 76 => some (.nilFunc, 1, 8)
  | 77 => some ((.int .u64 0), 1, 8)
  | 78 => some (.nilFunc, 1, 8)
  | 79 => some (.nilFunc, 1, 8)
  | 80 => some ((.agg #[(.pointer none), (.pointer none), (.pointer none), (.string ⟨#[]⟩)]), 4, 40)
  | 81 => some ((.agg #[(.pointer none), (.pointer none), (.pointer none), (.string ⟨#[]⟩)]), 4, 40)
  | 82 => some ((.agg #[]), 0, 0)
  | 83 => some ((.agg #[]), 0, 0)
  | 84 => some ((.agg #[]), 0, 0)
  | 85 => some (.nilFunc, 1, 8)
  | 86 => some ((.int .u32 0), 1, 4)
  | 87 => some ((.int .u8 0), 1, 1)
  | 88 => some ((.int .u8 0), 1, 1)
  | 89 => some (.nilFunc, 1, 8)
  | 90 => some ((.pointer none), 1, 8)
  | 91 => some ((.int .i32 0), 1, 4)
  | 92 => some ((.int .i32 0), 1, 4)
  | 93 => some ((.agg #[(.int .u64 0), (.int .u64 0), (.int .u32 0), (.int .u8 0), (.int .u8 0), (.int .u8 0), (.int .u8 0), .nilFunc, (.pointer none), (.int .i32 0), (.int .i32 0)]), 11, 48)
  | 94 => some ((.agg #[(.int .u64 0), (.int .u64 0), (.int .u32 0), (.int .u8 0), (.int .u8 0), (.int .u8 0), (.int .u8 0), .nilFunc, (.pointer none), (.int .i32 0), (.int .i32 0)]), 11, 48)
  | 95 => some ((.pointer none), 1, 8)
  | _ => none
theorem inf_mk {t : TypeId} {z : Value} {s b : Nat} (h : (Try.prog.info? t).map (fun i => (i.zero, i.size, i.bytes)) = some (some z, s, b)) : ∃ i, Try.prog.info? t = some i ∧ i.zero = some z ∧ i.size = s ∧ i.bytes = b := by
  cases hi : Try.prog.info? t with
  | none => rw [hi] at h; cases h
  | some i => rw [hi] at h; simp only [Option.map_some, Option.some.injEq, Prod.mk.injEq] at h; exact ⟨i, rfl, h.1, h.2.1, h.2.2⟩
theorem inf0 : (Try.prog.info? 0).map (fun i => (i.zero, i.size, i.bytes)) = some (some (.tuple #[]), 1, 0) := by kernel_rfl
theorem inf1 : (Try.prog.info? 1).map (fun i => (i.zero, i.size, i.bytes)) = some (some .nilFunc, 1, 8) := by kernel_rfl
theorem inf2 : (Try.prog.info? 2).map (fun i => (i.zero, i.size, i.bytes)) = some (some (.int .i64 0), 1, 8) := by kernel_rfl
theorem inf3 : (Try.prog.info? 3).map (fun i => (i.zero, i.size, i.bytes)) = some (some (.int .i64 0), 1, 8) := by kernel_rfl
theorem inf4 : (Try.prog.info? 4).map (fun i => (i.zero, i.size, i.bytes)) = some (some (.bool false), 1, 1) := by kernel_rfl
theorem inf5 : (Try.prog.info? 5).map (fun i => (i.zero, i.size, i.bytes)) = some (some (.int .u8 0), 1, 1) := by kernel_rfl
theorem inf6 : (Try.prog.info? 6).map (fun i => (i.zero, i.size, i.bytes)) = some (some (.int .u8 0), 1, 1) := by kernel_rfl
theorem inf7 : (Try.prog.info? 7).map (fun i => (i.zero, i.size, i.bytes)) = some (some (.agg #[(.int .i64 0), (.int .i64 0), (.bool false), (.int .u8 0)]), 4, 24) := by kernel_rfl
theorem inf8 : (Try.prog.info? 8).map (fun i => (i.zero, i.size, i.bytes)) = some (some (.agg #[(.int .i64 0), (.int .i64 0), (.bool false), (.int .u8 0)]), 4, 24) := by kernel_rfl
theorem inf9 : (Try.prog.info? 9).map (fun i => (i.zero, i.size, i.bytes)) = some (some (.string ⟨#[]⟩), 1, 16) := by kernel_rfl
theorem inf10 : (Try.prog.info? 10).map (fun i => (i.zero, i.size, i.bytes)) = some (some (.string ⟨#[]⟩), 1, 16) := by kernel_rfl
theorem inf11 : (Try.prog.info? 11).map (fun i => (i.zero, i.size, i.bytes)) = some (some (.string ⟨#[]⟩), 1, 16) := by kernel_rfl
theorem inf12 : (Try.prog.info? 12).map (fun i => (i.zero, i.size, i.bytes)) = some (some (.int .u64 0), 1, 8) := by kernel_rfl
theorem inf13 : (Try.prog.info? 13).map (fun i => (i.zero, i.size, i.bytes)) = some (some (.agg #[(.string ⟨#[]⟩), (.int .u64 0)]), 2, 24) := by kernel_rfl
theorem inf14 : (Try.prog.info? 14).map (fun i => (i.zero, i.size, i.bytes)) = some (some (.agg #[(.string ⟨#[]⟩), (.int .u64 0)]), 2, 24) := by kernel_rfl
theorem inf15 : (Try.prog.info? 15).map (fun i => (i.zero, i.size, i.bytes)) = some (some (.pointer none), 1, 8) := by kernel_rfl
theorem inf16 : (Try.prog.info? 16).map (fun i => (i.zero, i.size, i.bytes)) = some (some (.pointer none), 1, 8) := by kernel_rfl
theorem inf17 : (Try.prog.info? 17).map (fun i => (i.zero, i.size, i.bytes)) = some (some (.pointer none), 1, 8) := by kernel_rfl
theorem inf18 : (Try.prog.info? 18).map (fun i => (i.zero, i.size, i.bytes)) = some (some (.agg #[(.pointer none)]), 1, 8) := by kernel_rfl
theorem inf19 : (Try.prog.info? 19).map (fun i => (i.zero, i.size, i.bytes)) = some (some (.agg #[(.pointer none)]), 1, 8) := by kernel_rfl
theorem inf20 : (Try.prog.info? 20).map (fun i => (i.zero, i.size, i.bytes)) = some (some .nilIface, 1, 16) := by kernel_rfl
theorem inf21 : (Try.prog.info? 21).map (fun i => (i.zero, i.size, i.bytes)) = some (some (.int .i32 0), 1, 4) := by kernel_rfl
theorem inf22 : (Try.prog.info? 22).map (fun i => (i.zero, i.size, i.bytes)) = some (some (.agg #[(.int .i64 0), (.int .i64 0), (.int .i64 0), (.int .i64 0)]), 4, 32) := by kernel_rfl
theorem inf23 : (Try.prog.info? 23).map (fun i => (i.zero, i.size, i.bytes)) = some (some (.agg #[(.int .i64 0), (.int .i64 0), (.int .i64 0), (.int .i64 0)]), 4, 32) := by kernel_rfl
theorem inf24 : (Try.prog.info? 24).map (fun i => (i.zero, i.size, i.bytes)) = some (some (.slice none 0 0), 1, 24) := by kernel_rfl
theorem inf25 : (Try.prog.info? 25).map (fun i => (i.zero, i.size, i.bytes)) = some (some .nilFunc, 1, 8) := by kernel_rfl
theorem inf26 : (Try.prog.info? 26).map (fun i => (i.zero, i.size, i.bytes)) = some (some (.pointer none), 1, 8) := by kernel_rfl
theorem inf27 : (Try.prog.info? 27).map (fun i => (i.zero, i.size, i.bytes)) = some (some (.int .i64 0), 1, 8) := by kernel_rfl
theorem inf28 : (Try.prog.info? 28).map (fun i => (i.zero, i.size, i.bytes)) = some (some (.tuple #[(.pointer none), (.int .i64 0)]), 1, 0) := by kernel_rfl
theorem inf29 : (Try.prog.info? 29).map (fun i => (i.zero, i.size, i.bytes)) = some (some .nilFunc, 1, 8) := by kernel_rfl
theorem inf30 : (Try.prog.info? 30).map (fun i => (i.zero, i.size, i.bytes)) = some (some .nilFunc, 1, 8) := by kernel_rfl
theorem inf31 : (Try.prog.info? 31).map (fun i => (i.zero, i.size, i.bytes)) = some (some (.agg #[(.int .i64 0), (.int .i64 0), (.int .i64 0), (.int .i64 0), (.int .i64 0), (.int .i64 0), (.int .i64 0)]), 7, 56) := by kernel_rfl
theorem inf32 : (Try.prog.info? 32).map (fun i => (i.zero, i.size, i.bytes)) = some (some (.agg #[(.int .i64 0), (.int .i64 0), (.int .i64 0), (.int .i64 0), (.int .i64 0), (.int .i64 0), (.int .i64 0)]), 7, 56) := by kernel_rfl
theorem inf33 : (Try.prog.info? 33).map (fun i => (i.zero, i.size, i.bytes)) = some (some (.slice none 0 0), 1, 24) := by kernel_rfl
theorem inf34 : (Try.prog.info? 34).map (fun i => (i.zero, i.size, i.bytes)) = some (some .nilFunc, 1, 8) := by kernel_rfl
theorem inf35 : (Try.prog.info? 35).map (fun i => (i.zero, i.size, i.bytes)) = some (some .nilFunc, 1, 8) := by kernel_rfl
theorem inf36 : (Try.prog.info? 36).map (fun i => (i.zero, i.size, i.bytes)) = some (some (.agg #[(.int .i64 0), (.int .i64 0), (.int .i64 0), (.int .i64 0), (.int .i64 0)]), 5, 40) := by kernel_rfl
theorem inf37 : (Try.prog.info? 37).map (fun i => (i.zero, i.size, i.bytes)) = some (some (.agg #[(.int .i64 0), (.int .i64 0), (.int .i64 0), (.int .i64 0), (.int .i64 0)]), 5, 40) := by kernel_rfl
theorem inf38 : (Try.prog.info? 38).map (fun i => (i.zero, i.size, i.bytes)) = some (some .nilFunc, 1, 8) := by kernel_rfl
theorem inf39 : (Try.prog.info? 39).map (fun i => (i.zero, i.size, i.bytes)) = some (some .nilFunc, 1, 8) := by kernel_rfl
theorem inf40 : (Try.prog.info? 40).map (fun i => (i.zero, i.size, i.bytes)) = some (some .nilFunc, 1, 8) := by kernel_rfl
theorem inf41 : (Try.prog.info? 41).map (fun i => (i.zero, i.size, i.bytes)) = some (some (.agg #[(.int .i64 0), (.int .i64 0), (.int .i64 0), (.int .i64 0), (.int .i64 0), (.int .i64 0), (.int .i64 0), (.int .i64 0)]), 8, 64) := by kernel_rfl
theorem inf42 : (Try.prog.info? 42).map (fun i => (i.zero, i.size, i.bytes)) = some (some (.agg #[(.int .i64 0), (.int .i64 0)]), 2, 16) := by kernel_rfl
theorem inf43 : (Try.prog.info? 43).map (fun i => (i.zero, i.size, i.bytes)) = some (some (.tuple #[(.int .i64 0), (.int .i64 0)]), 1, 0) := by kernel_rfl
theorem inf44 : (Try.prog.info? 44).map (fun i => (i.zero, i.size, i.bytes)) = some (some .nilFunc, 1, 8) := by kernel_rfl
theorem inf45 : (Try.prog.info? 45).map (fun i => (i.zero, i.size, i.bytes)) = some (some (.tuple #[(.agg #[(.int .i64 0), (.int .i64 0), (.int .i64 0), (.int .i64 0)]), (.int .i64 0)]), 1, 0) := by kernel_rfl
theorem inf46 : (Try.prog.info? 46).map (fun i => (i.zero, i.size, i.bytes)) = some (some .nilFunc, 1, 8) := by kernel_rfl
theorem inf47 : (Try.prog.info? 47).map (fun i => (i.zero, i.size, i.bytes)) = some (some .nilFunc, 1, 8) := by kernel_rfl
theorem inf48 : (Try.prog.info? 48).map (fun i => (i.zero, i.size, i.bytes)) = some (some (.pointer none), 1, 8) := by kernel_rfl
theorem inf49 : (Try.prog.info? 49).map (fun i => (i.zero, i.size, i.bytes)) = some (some (.slice none 0 0), 1, 24) := by kernel_rfl
theorem inf50 : (Try.prog.info? 50).map (fun i => (i.zero, i.size, i.bytes)) = some (some (.agg #[(.int .i64 0), (.int .i64 0), (.int .i64 0), (.int .i64 0), (.slice none 0 0)]), 5, 56) := by kernel_rfl
theorem inf51 : (Try.prog.info? 51).map (fun i => (i.zero, i.size, i.bytes)) = some (some (.agg #[(.int .i64 0), (.int .i64 0), (.int .i64 0), (.int .i64 0), (.slice none 0 0)]), 5, 56) := by kernel_rfl
theorem inf52 : (Try.prog.info? 52).map (fun i => (i.zero, i.size, i.bytes)) = some (some .nilFunc, 1, 8) := by kernel_rfl
theorem inf53 : (Try.prog.info? 53).map (fun i => (i.zero, i.size, i.bytes)) = some (some .nilFunc, 1, 8) := by kernel_rfl
theorem inf54 : (Try.prog.info? 54).map (fun i => (i.zero, i.size, i.bytes)) = some (some (.slice none 0 0), 1, 24) := by kernel_rfl
theorem inf55 : (Try.prog.info? 55).map (fun i => (i.zero, i.size, i.bytes)) = some (some .nilFunc, 1, 8) := by kernel_rfl
theorem inf56 : (Try.prog.info? 56).map (fun i => (i.zero, i.size, i.bytes)) = some (some .nilFunc, 1, 8) := by kernel_rfl
theorem inf57 : (Try.prog.info? 57).map (fun i => (i.zero, i.size, i.bytes)) = some (some (.agg #[(.int .i64 0), (.int .i64 0), (.int .i64 0), (.int .i64 0), (.slice none 0 0), (.int .i64 0)]), 6, 64) := by kernel_rfl
theorem inf58 : (Try.prog.info? 58).map (fun i => (i.zero, i.size, i.bytes)) = some (some (.agg #[(.int .i64 0), (.int .i64 0), (.int .i64 0), (.int .i64 0), (.slice none 0 0), (.int .i64 0)]), 6, 64) := by kernel_rfl
theorem inf59 : (Try.prog.info? 59).map (fun i => (i.zero, i.size, i.bytes)) = some (some .nilFunc, 1, 8) := by kernel_rfl
theorem inf60 : (Try.prog.info? 60).map (fun i => (i.zero, i.size, i.bytes)) = some (some .nilFunc, 1, 8) := by kernel_rfl
theorem inf61 : (Try.prog.info? 61).map (fun i => (i.zero, i.size, i.bytes)) = some (some .nilFunc, 1, 8) := by kernel_rfl
theorem inf62 : (Try.prog.info? 62).map (fun i => (i.zero, i.size, i.bytes)) = some (some .nilFunc, 1, 8) := by kernel_rfl
theorem inf63 : (Try.prog.info? 63).map (fun i => (i.zero, i.size, i.bytes)) = some (some .nilFunc, 1, 8) := by kernel_rfl
theorem inf64 : (Try.prog.info? 64).map (fun i => (i.zero, i.size, i.bytes)) = some (some .nilFunc, 1, 8) := by kernel_rfl
theorem inf65 : (Try.prog.info? 65).map (fun i => (i.zero, i.size, i.bytes)) = some (some .nilFunc, 1, 8) := by kernel_rfl
theorem inf66 : (Try.prog.info? 66).map (fun i => (i.zero, i.size, i.bytes)) = some (some (.agg #[(.int .i64 0), (.int .i64 0), (.int .i64 0), (.int .i64 0), (.int .i64 0)]), 5, 40) := by kernel_rfl
theorem inf67 : (Try.prog.info? 67).map (fun i => (i.zero, i.size, i.bytes)) = some (some (.slice none 0 0), 1, 24) := by kernel_rfl
theorem inf68 : (Try.prog.info? 68).map (fun i => (i.zero, i.size, i.bytes)) = some (some .nilFunc, 1, 8) := by kernel_rfl
theorem inf69 : (Try.prog.info? 69).map (fun i => (i.zero, i.size, i.bytes)) = some (some .nilFunc, 1, 8) := by kernel_rfl
theorem inf70 : (Try.prog.info? 70).map (fun i => (i.zero, i.size, i.bytes)) = some (some .nilFunc, 1, 8) := by kernel_rfl
theorem inf71 : (Try.prog.info? 71).map (fun i => (i.zero, i.size, i.bytes)) = some (some .nilFunc, 1, 8) := by kernel_rfl
theorem inf72 : (Try.prog.info? 72).map (fun i => (i.zero, i.size, i.bytes)) = some (some .nilFunc, 1, 8) := by kernel_rfl
theorem inf73 : (Try.prog.info? 73).map (fun i => (i.zero, i.size, i.bytes)) = some (some (.agg #[(.int .i64 0), (.int .i64 0), (.int .i64 0), (.int .i64 0), (.int .i64 0), (.int .i64 0)]), 6, 48) := by kernel_rfl
theorem inf74 : (Try.prog.info? 74).map (fun i => (i.zero, i.size, i.bytes)) = some (some (.agg #[(.int .i64 0), (.int .i64 0), (.int .i64 0), (.int .i64 0), (.int .i64 0), (.int .i64 0)]), 6, 48) := by kernel_rfl
theorem inf75 : (Try.prog.info? 75).map (fun i => (i.zero, i.size, i.bytes)) = some (some .nilFunc, 1, 8) := by kernel_rfl
theorem inf76 : (Try.prog.info? 76).map (fun i => (i.zero, i.size, i.bytes)) = some (some .nilFunc, 1, 8) := by kernel_rfl
theorem inf77 : (Try.prog.info? 77).map (fun i => (i.zero, i.size, i.bytes)) = some (some (.int .u64 0), 1, 8) := by kernel_rfl
theorem inf78 : (Try.prog.info? 78).map (fun i => (i.zero, i.size, i.bytes)) = some (some .nilFunc, 1, 8) := by kernel_rfl
theorem inf79 : (Try.prog.info? 79).map (fun i => (i.zero, i.size, i.bytes)) = some (some .nilFunc, 1, 8) := by kernel_rfl
theorem inf80 : (Try.prog.info? 80).map (fun i => (i.zero, i.size, i.bytes)) = some (some (.agg #[(.pointer none), (.pointer none), (.pointer none), (.string ⟨#[]⟩)]), 4, 40) := by kernel_rfl
theorem inf81 : (Try.prog.info? 81).map (fun i => (i.zero, i.size, i.bytes)) = some (some (.agg #[(.pointer none), (.pointer none), (.pointer none), (.string ⟨#[]⟩)]), 4, 40) := by kernel_rfl
theorem inf82 : (Try.prog.info? 82).map (fun i => (i.zero, i.size, i.bytes)) = some (some (.agg #[]), 0, 0) := by kernel_rfl
theorem inf83 : (Try.prog.info? 83).map (fun i => (i.zero, i.size, i.bytes)) = some (some (.agg #[]), 0, 0) := by kernel_rfl
theorem inf84 : (Try.prog.info? 84).map (fun i => (i.zero, i.size, i.bytes)) = some (some (.agg #[]), 0, 0) := by kernel_rfl
theorem inf85 : (Try.prog.info? 85).map (fun i => (i.zero, i.size, i.bytes)) = some (some .nilFunc, 1, 8) := by kernel_rfl
theorem inf86 : (Try.prog.info? 86).map (fun i => (i.zero, i.size, i.bytes)) = some (some (.int .u32 0), 1, 4) := by kernel_rfl
theorem inf87 : (Try.prog.info? 87).map (fun i => (i.zero, i.size, i.bytes)) = some (some (.int .u8 0), 1, 1) := by kernel_rfl
theorem inf88 : (Try.prog.info? 88).map (fun i => (i.zero, i.size, i.bytes)) = some (some (.int .u8 0), 1, 1) := by kernel_rfl
theorem inf89 : (Try.prog.info? 89).map (fun i => (i.zero, i.size, i.bytes)) = some (some .nilFunc, 1, 8) := by kernel_rfl
theorem inf90 : (Try.prog.info? 90).map (fun i => (i.zero, i.size, i.bytes)) = some (some (.pointer none), 1, 8) := by kernel_rfl
theorem inf91 : (Try.prog.info? 91).map (fun i => (i.zero, i.size, i.bytes)) = some (some (.int .i32 0), 1, 4) := by kernel_rfl
theorem inf92 : (Try.prog.info? 92).map (fun i => (i.zero, i.size, i.bytes)) = some (some (.int .i32 0), 1, 4) := by kernel_rfl
theorem inf93 : (Try.prog.info? 93).map (fun i => (i.zero, i.size, i.bytes)) = some (some (.agg #[(.int .u64 0), (.int .u64 0), (.int .u32 0), (.int .u8 0), (.int .u8 0), (.int .u8 0), (.int .u8 0), .nilFunc, (.pointer none), (.int .i32 0), (.int .i32 0)]), 11, 48) := by kernel_rfl
theorem inf94 : (Try.prog.info? 94).map (fun i => (i.zero, i.size, i.bytes)) = some (some (.agg #[(.int .u64 0), (.int .u64 0), (.int .u32 0), (.int .u8 0), (.int .u8 0), (.int .u8 0), (.int .u8 0), .nilFunc, (.pointer none), (.int .i32 0), (.int .i32 0)]), 11, 48) := by kernel_rfl
theorem inf95 : (Try.prog.info? 95).map (fun i => (i.zero, i.size, i.bytes)) = some (some (.pointer none), 1, 8) := by kernel_rfl
set_option maxHeartbeats 4000000 in
theorem inf_ok : ∀ t z s b, inf t = some (z, s, b) → ∃ i, Try.prog.info? t = some i ∧ i.zero = some z ∧ i.size = s ∧ i.bytes = b := by
  intro t z s b h
  unfold inf at h
  split at h
  · cases h; exact inf_mk inf0
  · cases h; exact inf_mk inf1
  · cases h; exact inf_mk inf2
  · cases h; exact inf_mk inf3
  · cases h; exact inf_mk inf4
  · cases h; exact inf_mk inf5
  · cases h; exact inf_mk inf6
  · cases h; exact inf_mk inf7
  · cases h; exact inf_mk inf8
  · cases h; exact inf_mk inf9
  · cases h; exact inf_mk inf10
  · cases h; exact inf_mk inf11
  · cases h; exact inf_mk inf12
  · cases h; exact inf_mk inf13
  · cases h; exact inf_mk inf14
  · cases h; exact inf_mk inf15
  · cases h; exact inf_mk inf16
  · cases h; exact inf_mk inf17
  · cases h; exact inf_mk inf18
  · cases h; exact inf_mk inf19
  · cases h; exact inf_mk inf20
  · cases h; exact inf_mk inf21
  · cases h; exact inf_mk inf22
  · cases h; exact inf_mk inf23
  · cases h; exact inf_mk inf24
  · cases h; exact inf_mk inf25
  · cases h; exact inf_mk inf26
  · cases h; exact inf_mk inf27
  · cases h; exact inf_mk inf28
  · cases h; exact inf_mk inf29
  · cases h; exact inf_mk inf30
  · cases h; exact inf_mk inf31
  · cases h; exact inf_mk inf32
  · cases h; exact inf_mk inf33
  · cases h; exact inf_mk inf34
  · cases h; exact inf_mk inf35
  · cases h; exact inf_mk inf36
  · cases h; exact inf_mk inf37
  · cases h; exact inf_mk inf38
  · cases h; exact inf_mk inf39
  · cases h; exact inf_mk inf40
  · cases h; exact inf_mk inf41
  · cases h; exact inf_mk inf42
  · cases h; exact inf_mk inf43
  · cases h; exact inf_mk inf44
  · cases h; exact inf_mk inf45
  · cases h; exact inf_mk inf46
  · cases h; exact inf_mk inf47
  · cases h; exact inf_mk inf48
  · cases h; exact inf_mk inf49
  · cases h; exact inf_mk inf50
  · cases h; exact inf_mk inf51
  · cases h; exact inf_mk inf52
  · cases h; exact inf_mk inf53
  · cases h; exact inf_mk inf54
  · cases h; exact inf_mk inf55
  · cases h; exact inf_mk inf56
  · cases h; exact inf_mk inf57
  · cases h; exact inf_mk inf58
  · cases h; exact inf_mk inf59
  · cases h; exact inf_mk inf60
  · cases h; exact inf_mk inf61
  · cases h; exact inf_mk inf62
  · cases h; exact inf_mk inf63
  · cases h; exact inf_mk inf64
  · cases h; exact inf_mk inf65
  · cases h; exact inf_mk inf66
  · cases h; exact inf_mk inf67
  · cases h; exact inf_mk inf68
  · cases h; exact inf_mk inf69
  · cases h; exact inf_mk inf70
  · cases h; exact inf_mk inf71
  · cases h; exact inf_mk inf72
  · cases h; exact inf_mk inf73
  · cases h; exact inf_mk inf74
  · cases h; exact inf_mk inf75
  · cases h; exact inf_mk inf76
  · cases h; exact inf_mk inf77
  · cases h; exact inf_mk inf78
  · cases h; exact inf_mk inf79
  · cases h; exact inf_mk inf80
  · cases h; exact inf_mk inf81
  · cases h; exact inf_mk inf82
  · cases h; exact inf_mk inf83
  · cases h; exact inf_mk inf84
  · cases h; exact inf_mk inf85
  · cases h; exact inf_mk inf86
  · cases h; exact inf_mk inf87
  · cases h; exact inf_mk inf88
  · cases h; exact inf_mk inf89
  · cases h; exact inf_mk inf90
  · cases h; exact inf_mk inf91
  · cases h; exact inf_mk inf92
  · cases h; exact inf_mk inf93
  · cases h; exact inf_mk inf94
  · cases h; exact inf_mk inf95
  · cases h
theorem mixed : Try.prog.follows .mixedOrders = true := by kernel_rfl
noncomputable instance tab : Tab Try.prog := { und := und, und_ok := und_ok, mixed := mixed, inf := inf, inf_ok := inf_ok }
theorem callOk {f : FuncId} {fn : Func} (h : Try.prog.funcs[f]? = some fn) (hn : (fn.name == "runtime.NumGoroutine") = false) (hb : fn.body.isNone = false) : CallOk Try.prog f := fun args w => by
  unfold callFunc
  rw [Sem.run_bind, run_program]
  simp only [Result.andThen_ok, h]
  rw [if_neg (by rw [hn]; simp), if_neg (by rw [hb]; simp)]
  rfl
noncomputable def c2 : Code := Try.f2.body.getD .skip
theorem fn2 : FnOk Try.prog 2 1 [] c2 := ⟨⟨Try.f2, Try.func2, rfl, Try.ntmps2, rfl, callOk Try.func2 (by kernel_rfl) rfl⟩⟩
noncomputable def c3 : Code := Try.f3.body.getD .skip
theorem fn3 : FnOk Try.prog 3 139 [ResultVar.tmp 4] c3 := ⟨⟨Try.f3, Try.func3, rfl, Try.ntmps3, rfl, callOk Try.func3 (by kernel_rfl) rfl⟩⟩
noncomputable def c4 : Code := Try.f4.body.getD .skip
theorem fn4 : FnOk Try.prog 4 117 [ResultVar.tmp 4] c4 := ⟨⟨Try.f4, Try.func4, rfl, Try.ntmps4, rfl, callOk Try.func4 (by kernel_rfl) rfl⟩⟩
noncomputable def c5 : Code := Try.f5.body.getD .skip
theorem fn5 : FnOk Try.prog 5 128 [ResultVar.tmp 6] c5 := ⟨⟨Try.f5, Try.func5, rfl, Try.ntmps5, rfl, callOk Try.func5 (by kernel_rfl) rfl⟩⟩
noncomputable def c6 : Code := Try.f6.body.getD .skip
theorem fn6 : FnOk Try.prog 6 59 [ResultVar.tmp 4] c6 := ⟨⟨Try.f6, Try.func6, rfl, Try.ntmps6, rfl, callOk Try.func6 (by kernel_rfl) rfl⟩⟩
noncomputable def c7 : Code := Try.f7.body.getD .skip
theorem fn7 : FnOk Try.prog 7 90 [ResultVar.tmp 6] c7 := ⟨⟨Try.f7, Try.func7, rfl, Try.ntmps7, rfl, callOk Try.func7 (by kernel_rfl) rfl⟩⟩
noncomputable def c8 : Code := Try.f8.body.getD .skip
theorem fn8 : FnOk Try.prog 8 38 [ResultVar.tmp 0] c8 := ⟨⟨Try.f8, Try.func8, rfl, Try.ntmps8, rfl, callOk Try.func8 (by kernel_rfl) rfl⟩⟩
noncomputable def c9 : Code := Try.f9.body.getD .skip
theorem fn9 : FnOk Try.prog 9 10 [ResultVar.tmp 2, ResultVar.tmp 3] c9 := ⟨⟨Try.f9, Try.func9, rfl, Try.ntmps9, rfl, callOk Try.func9 (by kernel_rfl) rfl⟩⟩
noncomputable def c10 : Code := Try.f10.body.getD .skip
theorem fn10 : FnOk Try.prog 10 104 [ResultVar.tmp 8] c10 := ⟨⟨Try.f10, Try.func10, rfl, Try.ntmps10, rfl, callOk Try.func10 (by kernel_rfl) rfl⟩⟩
noncomputable def c11 : Code := Try.f11.body.getD .skip
theorem fn11 : FnOk Try.prog 11 10 [ResultVar.tmp 2] c11 := ⟨⟨Try.f11, Try.func11, rfl, Try.ntmps11, rfl, callOk Try.func11 (by kernel_rfl) rfl⟩⟩
noncomputable def c12 : Code := Try.f12.body.getD .skip
theorem fn12 : FnOk Try.prog 12 18 [ResultVar.tmp 2] c12 := ⟨⟨Try.f12, Try.func12, rfl, Try.ntmps12, rfl, callOk Try.func12 (by kernel_rfl) rfl⟩⟩
noncomputable def c13 : Code := Try.f13.body.getD .skip
theorem fn13 : FnOk Try.prog 13 31 [ResultVar.tmp 4] c13 := ⟨⟨Try.f13, Try.func13, rfl, Try.ntmps13, rfl, callOk Try.func13 (by kernel_rfl) rfl⟩⟩
noncomputable def c14 : Code := Try.f14.body.getD .skip
theorem fn14 : FnOk Try.prog 14 27 [ResultVar.cell 4 23] c14 := ⟨⟨Try.f14, Try.func14, rfl, Try.ntmps14, rfl, callOk Try.func14 (by kernel_rfl) rfl⟩⟩
noncomputable def c15 : Code := Try.f15.body.getD .skip
theorem fn15 : FnOk Try.prog 15 96 [ResultVar.tmp 8, ResultVar.tmp 9] c15 := ⟨⟨Try.f15, Try.func15, rfl, Try.ntmps15, rfl, callOk Try.func15 (by kernel_rfl) rfl⟩⟩
noncomputable def c16 : Code := Try.f16.body.getD .skip
theorem fn16 : FnOk Try.prog 16 56 [ResultVar.cell 6 23, ResultVar.tmp 7] c16 := ⟨⟨Try.f16, Try.func16, rfl, Try.ntmps16, rfl, callOk Try.func16 (by kernel_rfl) rfl⟩⟩
noncomputable def c17 : Code := Try.f17.body.getD .skip
theorem fn17 : FnOk Try.prog 17 114 [ResultVar.tmp 6] c17 := ⟨⟨Try.f17, Try.func17, rfl, Try.ntmps17, rfl, callOk Try.func17 (by kernel_rfl) rfl⟩⟩
noncomputable def c18 : Code := Try.f18.body.getD .skip
theorem fn18 : FnOk Try.prog 18 41 [ResultVar.tmp 4] c18 := ⟨⟨Try.f18, Try.func18, rfl, Try.ntmps18, rfl, callOk Try.func18 (by kernel_rfl) rfl⟩⟩
noncomputable def c19 : Code := Try.f19.body.getD .skip
theorem fn19 : FnOk Try.prog 19 40 [ResultVar.tmp 2] c19 := ⟨⟨Try.f19, Try.func19, rfl, Try.ntmps19, rfl, callOk Try.func19 (by kernel_rfl) rfl⟩⟩
noncomputable def c20 : Code := Try.f20.body.getD .skip
theorem fn20 : FnOk Try.prog 20 63 [ResultVar.cell 6 23, ResultVar.tmp 7] c20 := ⟨⟨Try.f20, Try.func20, rfl, Try.ntmps20, rfl, callOk Try.func20 (by kernel_rfl) rfl⟩⟩
noncomputable def c21 : Code := Try.f21.body.getD .skip
theorem fn21 : FnOk Try.prog 21 121 [ResultVar.tmp 8, ResultVar.tmp 9] c21 := ⟨⟨Try.f21, Try.func21, rfl, Try.ntmps21, rfl, callOk Try.func21 (by kernel_rfl) rfl⟩⟩
noncomputable def c22 : Code := Try.f22.body.getD .skip
theorem fn22 : FnOk Try.prog 22 16 [ResultVar.tmp 2] c22 := ⟨⟨Try.f22, Try.func22, rfl, Try.ntmps22, rfl, callOk Try.func22 (by kernel_rfl) rfl⟩⟩
noncomputable def c23 : Code := Try.f23.body.getD .skip
theorem fn23 : FnOk Try.prog 23 16 [ResultVar.tmp 4] c23 := ⟨⟨Try.f23, Try.func23, rfl, Try.ntmps23, rfl, callOk Try.func23 (by kernel_rfl) rfl⟩⟩
noncomputable def c24 : Code := Try.f24.body.getD .skip
theorem fn24 : FnOk Try.prog 24 17 [ResultVar.tmp 4] c24 := ⟨⟨Try.f24, Try.func24, rfl, Try.ntmps24, rfl, callOk Try.func24 (by kernel_rfl) rfl⟩⟩
noncomputable def c25 : Code := Try.f25.body.getD .skip
theorem fn25 : FnOk Try.prog 25 38 [] c25 := ⟨⟨Try.f25, Try.func25, rfl, Try.ntmps25, rfl, callOk Try.func25 (by kernel_rfl) rfl⟩⟩
noncomputable def c26 : Code := Try.f26.body.getD .skip
theorem fn26 : FnOk Try.prog 26 12 [ResultVar.tmp 4] c26 := ⟨⟨Try.f26, Try.func26, rfl, Try.ntmps26, rfl, callOk Try.func26 (by kernel_rfl) rfl⟩⟩
noncomputable def c27 : Code := Try.f27.body.getD .skip
theorem fn27 : FnOk Try.prog 27 36 [ResultVar.cell 4 23, ResultVar.tmp 5] c27 := ⟨⟨Try.f27, Try.func27, rfl, Try.ntmps27, rfl, callOk Try.func27 (by kernel_rfl) rfl⟩⟩
noncomputable def c28 : Code := Try.f28.body.getD .skip
theorem fn28 : FnOk Try.prog 28 42 [ResultVar.tmp 4] c28 := ⟨⟨Try.f28, Try.func28, rfl, Try.ntmps28, rfl, callOk Try.func28 (by kernel_rfl) rfl⟩⟩
noncomputable def c29 : Code := Try.f29.body.getD .skip
theorem fn29 : FnOk Try.prog 29 12 [ResultVar.tmp 3] c29 := ⟨⟨Try.f29, Try.func29, rfl, Try.ntmps29, rfl, callOk Try.func29 (by kernel_rfl) rfl⟩⟩
noncomputable def c30 : Code := Try.f30.body.getD .skip
theorem fn30 : FnOk Try.prog 30 8 [ResultVar.tmp 2] c30 := ⟨⟨Try.f30, Try.func30, rfl, Try.ntmps30, rfl, callOk Try.func30 (by kernel_rfl) rfl⟩⟩
noncomputable def c31 : Code := Try.f31.body.getD .skip
theorem fn31 : FnOk Try.prog 31 47 [ResultVar.tmp 8] c31 := ⟨⟨Try.f31, Try.func31, rfl, Try.ntmps31, rfl, callOk Try.func31 (by kernel_rfl) rfl⟩⟩
noncomputable def c32 : Code := Try.f32.body.getD .skip
theorem fn32 : FnOk Try.prog 32 63 [ResultVar.cell 4 23] c32 := ⟨⟨Try.f32, Try.func32, rfl, Try.ntmps32, rfl, callOk Try.func32 (by kernel_rfl) rfl⟩⟩
noncomputable def c33 : Code := Try.f33.body.getD .skip
theorem fn33 : FnOk Try.prog 33 90 [ResultVar.tmp 2] c33 := ⟨⟨Try.f33, Try.func33, rfl, Try.ntmps33, rfl, callOk Try.func33 (by kernel_rfl) rfl⟩⟩
noncomputable def c34 : Code := Try.f34.body.getD .skip
theorem fn34 : FnOk Try.prog 34 16 [ResultVar.tmp 4] c34 := ⟨⟨Try.f34, Try.func34, rfl, Try.ntmps34, rfl, callOk Try.func34 (by kernel_rfl) rfl⟩⟩
noncomputable def c35 : Code := Try.f35.body.getD .skip
theorem fn35 : FnOk Try.prog 35 95 [ResultVar.tmp 6] c35 := ⟨⟨Try.f35, Try.func35, rfl, Try.ntmps35, rfl, callOk Try.func35 (by kernel_rfl) rfl⟩⟩
noncomputable def c36 : Code := Try.f36.body.getD .skip
theorem fn36 : FnOk Try.prog 36 26 [ResultVar.tmp 4] c36 := ⟨⟨Try.f36, Try.func36, rfl, Try.ntmps36, rfl, callOk Try.func36 (by kernel_rfl) rfl⟩⟩
noncomputable def c37 : Code := Try.f37.body.getD .skip
theorem fn37 : FnOk Try.prog 37 15 [ResultVar.tmp 4] c37 := ⟨⟨Try.f37, Try.func37, rfl, Try.ntmps37, rfl, callOk Try.func37 (by kernel_rfl) rfl⟩⟩
noncomputable def c38 : Code := Try.f38.body.getD .skip
theorem fn38 : FnOk Try.prog 38 19 [ResultVar.tmp 4] c38 := ⟨⟨Try.f38, Try.func38, rfl, Try.ntmps38, rfl, callOk Try.func38 (by kernel_rfl) rfl⟩⟩
noncomputable def c40 : Code := Try.f40.body.getD .skip
theorem fn40 : FnOk Try.prog 40 10 [] c40 := ⟨⟨Try.f40, Try.func40, rfl, Try.ntmps40, rfl, callOk Try.func40 (by kernel_rfl) rfl⟩⟩
noncomputable def c41 : Code := Try.f41.body.getD .skip
theorem fn41 : FnOk Try.prog 41 14 [] c41 := ⟨⟨Try.f41, Try.func41, rfl, Try.ntmps41, rfl, callOk Try.func41 (by kernel_rfl) rfl⟩⟩
noncomputable def c42 : Code := Try.f42.body.getD .skip
theorem fn42 : FnOk Try.prog 42 28 [] c42 := ⟨⟨Try.f42, Try.func42, rfl, Try.ntmps42, rfl, callOk Try.func42 (by kernel_rfl) rfl⟩⟩
end Go.Proofs.Ytkfebhogimmoeaa
