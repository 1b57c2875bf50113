import Derived.Test.YtchaijafpmofdaaSlE
import Derived.Test.YtchaijafpmofdaaProg
/-! The types of the program as a table; each function with its body (written by program). -/
namespace Go.Proofs.Ytchaijafpmofdaa
open Go.Sl
set_option linter.unusedVariables false
set_option maxRecDepth 100000
noncomputable def und : TypeId → Option TypeDesc
  | 0 => some (TypeDesc.tuple #[])
  | 1 => some (TypeDesc.func #[] #[] false)
  | 2 => some (TypeDesc.int IntKind.i64)
  | 3 => some (TypeDesc.int IntKind.i64)
  | 4 => some TypeDesc.bool
  | 5 => some (TypeDesc.int IntKind.u8)
  | 6 => some (TypeDesc.int IntKind.u8)
  | 7 => some (TypeDesc.struct #[{ name := "x", type := 2, offset := 0, embedded := false, tag := "", pkgPath := "runtime", byteOffset := 0 }, { name := "y", type := 3, offset := 1, embedded := false, tag := "", pkgPath := "runtime", byteOffset := 8 }, { name := "signed", type := 4, offset := 2, embedded := false, tag := "", pkgPath := "runtime", byteOffset := 16 }, { name := "code", type := 6, offset := 3, embedded := false, tag := "", pkgPath := "runtime", byteOffset := 17 }])
  | 8 => some (TypeDesc.struct #[{ name := "x", type := 2, offset := 0, embedded := false, tag := "", pkgPath := "runtime", byteOffset := 0 }, { name := "y", type := 3, offset := 1, embedded := false, tag := "", pkgPath := "runtime", byteOffset := 8 }, { name := "signed", type := 4, offset := 2, embedded := false, tag := "", pkgPath := "runtime", byteOffset := 16 }, { name := "code", type := 6, offset := 3, embedded := false, tag := "", pkgPath := "runtime", byteOffset := 17 }])
  | 9 => some TypeDesc.string
  | 10 => some TypeDesc.string
  | 11 => some TypeDesc.string
  | 12 => some (TypeDesc.int IntKind.u64)
  | 13 => some (TypeDesc.struct #[{ name := "msg", type := 9, offset := 0, embedded := false, tag := "", pkgPath := "runtime", byteOffset := 0 }, { name := "addr", type := 12, offset := 1, embedded := false, tag := "", pkgPath := "runtime", byteOffset := 16 }])
  | 14 => some (TypeDesc.struct #[{ name := "msg", type := 9, offset := 0, embedded := false, tag := "", pkgPath := "runtime", byteOffset := 0 }, { name := "addr", type := 12, offset := 1, embedded := false, tag := "", pkgPath := "runtime", byteOffset := 16 }])
  | 15 => some (TypeDesc.pointer 148)
  | 16 => some (TypeDesc.pointer 151)
  | 17 => some (TypeDesc.pointer 160)
  | 18 => some (TypeDesc.struct #[{ name := "typ", type := 17, offset := 0, embedded := false, tag := "", pkgPath := "internal/runtime/maps", byteOffset := 0 }])
  | 19 => some (TypeDesc.struct #[{ name := "typ", type := 17, offset := 0, embedded := false, tag := "", pkgPath := "internal/runtime/maps", byteOffset := 0 }])
  | 20 => some (TypeDesc.interface #[])
  | 21 => some (TypeDesc.int IntKind.i32)
  | 22 => some (TypeDesc.slice 46)
  | 23 => some (TypeDesc.struct #[{ name := "Now", type := 2, offset := 0, embedded := false, tag := "", pkgPath := "", byteOffset := 0 }, { name := "Runtime", type := 2, offset := 1, embedded := false, tag := "", pkgPath := "", byteOffset := 8 }, { name := "Head", type := 22, offset := 2, embedded := false, tag := "", pkgPath := "", byteOffset := 16 }, { name := "Later", type := 22, offset := 3, embedded := false, tag := "", pkgPath := "", byteOffset := 40 }])
  | 24 => some (TypeDesc.struct #[{ name := "Now", type := 2, offset := 0, embedded := false, tag := "", pkgPath := "", byteOffset := 0 }, { name := "Runtime", type := 2, offset := 1, embedded := false, tag := "", pkgPath := "", byteOffset := 8 }, { name := "Head", type := 22, offset := 2, embedded := false, tag := "", pkgPath := "", byteOffset := 16 }, { name := "Later", type := 22, offset := 3, embedded := false, tag := "", pkgPath := "", byteOffset := 40 }])
  | 25 => some (TypeDesc.slice 42)
  | 26 => some (TypeDesc.slice 48)
  | 27 => some (TypeDesc.func #[] #[4] false)
  | 28 => some (TypeDesc.func #[24, 25, 26] #[4] false)
  | 29 => some (TypeDesc.slice 9)
  | 30 => some (TypeDesc.int IntKind.i64)
  | 31 => some (TypeDesc.tuple #[2, 29, 30])
  | 32 => some (TypeDesc.func #[2, 22, 25, 26] #[2, 29, 30] true)
  | 33 => some (TypeDesc.func #[2, 22, 34, 36] #[2, 29, 30] false)
  | 34 => some (TypeDesc.slice 59)
  | 35 => some (TypeDesc.func #[25] #[34] false)
  | 36 => some (TypeDesc.slice 61)
  | 37 => some (TypeDesc.func #[26] #[36] false)
  | 38 => some (TypeDesc.func #[29, 29] #[4] false)
  | 39 => some (TypeDesc.tuple #[29, 30])
  | 40 => some (TypeDesc.func #[22, 26] #[29, 30] true)
  | 41 => some (TypeDesc.struct #[{ name := "Job", type := 2, offset := 0, embedded := false, tag := "", pkgPath := "", byteOffset := 0 }, { name := "End", type := 2, offset := 1, embedded := false, tag := "", pkgPath := "", byteOffset := 8 }, { name := "Tasks", type := 22, offset := 2, embedded := false, tag := "", pkgPath := "", byteOffset := 16 }, { name := "Nodes", type := 29, offset := 3, embedded := false, tag := "", pkgPath := "", byteOffset := 40 }])
  | 42 => some (TypeDesc.struct #[{ name := "Job", type := 2, offset := 0, embedded := false, tag := "", pkgPath := "", byteOffset := 0 }, { name := "End", type := 2, offset := 1, embedded := false, tag := "", pkgPath := "", byteOffset := 8 }, { name := "Tasks", type := 22, offset := 2, embedded := false, tag := "", pkgPath := "", byteOffset := 16 }, { name := "Nodes", type := 29, offset := 3, embedded := false, tag := "", pkgPath := "", byteOffset := 40 }])
  | 43 => some (TypeDesc.tuple #[26, 30])
  | 44 => some (TypeDesc.func #[22, 29, 26] #[26, 30] true)
  | 45 => some (TypeDesc.array 4 2)
  | 46 => some (TypeDesc.array 4 2)
  | 47 => some (TypeDesc.struct #[{ name := "Node", type := 9, offset := 0, embedded := false, tag := "", pkgPath := "", byteOffset := 0 }, { name := "Free", type := 46, offset := 1, embedded := false, tag := "", pkgPath := "", byteOffset := 16 }])
  | 48 => some (TypeDesc.struct #[{ name := "Node", type := 9, offset := 0, embedded := false, tag := "", pkgPath := "", byteOffset := 0 }, { name := "Free", type := 46, offset := 1, embedded := false, tag := "", pkgPath := "", byteOffset := 16 }])
  | 49 => some (TypeDesc.func #[2, 22, 25, 26] #[30] false)
  | 50 => some (TypeDesc.slice 75)
  | 51 => some (TypeDesc.slice 2)
  | 52 => some (TypeDesc.struct #[{ name := "slots", type := 26, offset := 0, embedded := false, tag := "", pkgPath := "drover/fill", byteOffset := 0 }, { name := "profiles", type := 50, offset := 1, embedded := false, tag := "", pkgPath := "drover/fill", byteOffset := 24 }, { name := "ticks", type := 51, offset := 2, embedded := false, tag := "", pkgPath := "drover/fill", byteOffset := 48 }])
  | 53 => some (TypeDesc.struct #[{ name := "slots", type := 26, offset := 0, embedded := false, tag := "", pkgPath := "drover/fill", byteOffset := 0 }, { name := "profiles", type := 50, offset := 1, embedded := false, tag := "", pkgPath := "drover/fill", byteOffset := 24 }, { name := "ticks", type := 51, offset := 2, embedded := false, tag := "", pkgPath := "drover/fill", byteOffset := 48 }])
  | 54 => some (TypeDesc.tuple #[53, 30])
  | 55 => some (TypeDesc.func #[2, 25, 26] #[53, 30] false)
  | 56 => some (TypeDesc.func #[22] #[2, 29, 30] false)
  | 57 => some (TypeDesc.func #[2, 22, 34, 36] #[30] false)
  | 58 => some (TypeDesc.func #[22, 36] #[29, 30] false)
  | 59 => some (TypeDesc.struct #[{ name := "Job", type := 2, offset := 0, embedded := false, tag := "", pkgPath := "", byteOffset := 0 }, { name := "End", type := 2, offset := 1, embedded := false, tag := "", pkgPath := "", byteOffset := 8 }, { name := "Tasks", type := 22, offset := 2, embedded := false, tag := "", pkgPath := "", byteOffset := 16 }, { name := "Nodes", type := 29, offset := 3, embedded := false, tag := "", pkgPath := "", byteOffset := 40 }])
  | 60 => some (TypeDesc.func #[2, 2, 34, 36] #[36] false)
  | 61 => some (TypeDesc.struct #[{ name := "Node", type := 9, offset := 0, embedded := false, tag := "", pkgPath := "", byteOffset := 0 }, { name := "Free", type := 46, offset := 1, embedded := false, tag := "", pkgPath := "", byteOffset := 16 }])
  | 62 => some (TypeDesc.func #[22, 26] #[30] false)
  | 63 => some (TypeDesc.func #[26] #[26] false)
  | 64 => some (TypeDesc.slice 3)
  | 65 => some (TypeDesc.func #[22] #[64] false)
  | 66 => some (TypeDesc.func #[26, 68] #[3] false)
  | 67 => some (TypeDesc.func #[46, 46] #[4] false)
  | 68 => some (TypeDesc.func #[48] #[4] false)
  | 69 => some (TypeDesc.tuple #[46, 30])
  | 70 => some (TypeDesc.func #[46, 46] #[46, 30] false)
  | 71 => some (TypeDesc.func #[22, 29, 26, 70] #[26, 30] false)
  | 72 => some (TypeDesc.func #[2] #[4] false)
  | 73 => some (TypeDesc.func #[25, 74] #[4] false)
  | 74 => some (TypeDesc.func #[42] #[4] false)
  | 75 => some (TypeDesc.pointer 98)
  | 76 => some (TypeDesc.tuple #[75, 30])
  | 77 => some (TypeDesc.func #[46] #[75, 30] false)
  | 78 => some (TypeDesc.func #[2, 2, 46] #[30] false)
  | 79 => some (TypeDesc.func #[51] #[] false)
  | 80 => some (TypeDesc.func #[51] #[51] false)
  | 81 => some (TypeDesc.func #[2] #[26] false)
  | 82 => some (TypeDesc.func #[22, 36] #[30] false)
  | 83 => some (TypeDesc.tuple #[36, 30])
  | 84 => some (TypeDesc.func #[22, 29, 36, 4] #[36, 30] false)
  | 85 => some (TypeDesc.func #[36] #[36] false)
  | 86 => some (TypeDesc.slice 4)
  | 87 => some (TypeDesc.func #[22, 86] #[3] false)
  | 88 => some (TypeDesc.func #[22, 89] #[4] false)
  | 89 => some (TypeDesc.func #[46] #[4] false)
  | 90 => some (TypeDesc.map 9 4)
  | 91 => some (TypeDesc.func #[64, 92] #[] false)
  | 92 => some (TypeDesc.func #[3, 3] #[3] false)
  | 93 => some (TypeDesc.func #[46, 46] #[3] false)
  | 94 => some (TypeDesc.func #[22] #[46, 30] true)
  | 95 => some (TypeDesc.func #[25, 74] #[3] false)
  | 96 => some (TypeDesc.slice 104)
  | 97 => some (TypeDesc.struct #[{ name := "capacity", type := 46, offset := 0, embedded := false, tag := "", pkgPath := "drover/profile", byteOffset := 0 }, { name := "steps", type := 96, offset := 4, embedded := false, tag := "", pkgPath := "drover/profile", byteOffset := 32 }, { name := "takes", type := 3, offset := 5, embedded := false, tag := "", pkgPath := "drover/profile", byteOffset := 56 }])
  | 98 => some (TypeDesc.struct #[{ name := "capacity", type := 46, offset := 0, embedded := false, tag := "", pkgPath := "drover/profile", byteOffset := 0 }, { name := "steps", type := 96, offset := 4, embedded := false, tag := "", pkgPath := "drover/profile", byteOffset := 32 }, { name := "takes", type := 3, offset := 5, embedded := false, tag := "", pkgPath := "drover/profile", byteOffset := 56 }])
  | 99 => some (TypeDesc.func #[2, 2] #[4] false)
  | 100 => some (TypeDesc.func #[2, 2] #[46, 30] false)
  | 101 => some (TypeDesc.func #[2] #[] false)
  | 102 => some (TypeDesc.func #[2] #[3] false)
  | 103 => some (TypeDesc.struct #[{ name := "At", type := 2, offset := 0, embedded := false, tag := "", pkgPath := "", byteOffset := 0 }, { name := "Free", type := 46, offset := 1, embedded := false, tag := "", pkgPath := "", byteOffset := 8 }])
  | 104 => some (TypeDesc.struct #[{ name := "At", type := 2, offset := 0, embedded := false, tag := "", pkgPath := "", byteOffset := 0 }, { name := "Free", type := 46, offset := 1, embedded := false, tag := "", pkgPath := "", byteOffset := 8 }])
  | 105 => some (TypeDesc.func #[96, 106] #[96] false)
  | 106 => some (TypeDesc.func #[104] #[4] false)
  | 107 => some (TypeDesc.func #[51, 3, 3, 3] #[] false)
  | 108 => some (TypeDesc.func #[109] #[3] false)
  | 109 => some (TypeDesc.int IntKind.u64)
  | 110 => some (TypeDesc.func #[2] #[46] false)
  | 111 => some (TypeDesc.func #[36, 9] #[3] false)
  | 112 => some (TypeDesc.func #[22, 89] #[3] false)
  | 113 => some (TypeDesc.func #[64, 3, 92] #[] false)
  | 114 => some (TypeDesc.func #[3] #[4] false)
  | 115 => some (TypeDesc.func #[51, 51] #[3] false)
  | 116 => some (TypeDesc.func #[96, 3, 96] #[96] true)
  | 117 => some (TypeDesc.func #[3, 114] #[3] false)
  | 118 => some (TypeDesc.func #[96, 106] #[3] false)
  | 119 => some (TypeDesc.func #[51, 3, 3] #[] false)
  | 120 => some (TypeDesc.int IntKind.i64)
  | 121 => some (TypeDesc.tuple #[3, 120])
  | 122 => some (TypeDesc.func #[51, 3, 3] #[3, 120] false)
  | 123 => some (TypeDesc.func #[51, 3, 3] #[4] false)
  | 124 => some (TypeDesc.func #[51, 3, 3, 3] #[3] false)
  | 125 => some (TypeDesc.tuple #[3, 4])
  | 126 => some (TypeDesc.func #[51, 3, 3, 3] #[3, 4] false)
  | 127 => some (TypeDesc.func #[128] #[3] false)
  | 128 => some (TypeDesc.int IntKind.u32)
  | 129 => some (TypeDesc.func #[130] #[3] false)
  | 130 => some (TypeDesc.int IntKind.u64)
  | 131 => some (TypeDesc.func #[64, 3, 3, 92] #[] false)
  | 132 => some (TypeDesc.func #[64, 3, 3, 3, 92] #[] false)
  | 133 => some (TypeDesc.func #[2, 2] #[3] false)
  | 134 => some (TypeDesc.func #[96, 96] #[4] false)
  | 135 => some (TypeDesc.func #[96, 3] #[] false)
  | 136 => some (TypeDesc.int IntKind.u64)
  | 137 => some (TypeDesc.func #[3] #[109] false)
  | 138 => some (TypeDesc.func #[] #[130] false)
  | 139 => some (TypeDesc.func #[51, 3, 140] #[3] false)
  | 140 => some (TypeDesc.pointer 3)
  | 141 => some (TypeDesc.func #[51, 3, 3, 3, 140] #[3] false)
  | 142 => some (TypeDesc.pointer 136)
  | 143 => some (TypeDesc.tuple #[3, 3])
  | 144 => some (TypeDesc.func #[51, 3, 3, 140] #[3, 3] false)
  | 145 => some (TypeDesc.func #[96] #[] false)
  | 146 => some (TypeDesc.func #[] #[9] false)
  | 147 => some (TypeDesc.struct #[{ name := "_interface", type := 17, offset := 0, embedded := false, tag := "", pkgPath := "runtime", byteOffset := 0 }, { name := "concrete", type := 17, offset := 1, embedded := false, tag := "", pkgPath := "runtime", byteOffset := 8 }, { name := "asserted", type := 17, offset := 2, embedded := false, tag := "", pkgPath := "runtime", byteOffset := 16 }, { name := "missingMethod", type := 9, offset := 3, embedded := false, tag := "", pkgPath := "runtime", byteOffset := 24 }])
  | 148 => some (TypeDesc.struct #[{ name := "_interface", type := 17, offset := 0, embedded := false, tag := "", pkgPath := "runtime", byteOffset := 0 }, { name := "concrete", type := 17, offset := 1, embedded := false, tag := "", pkgPath := "runtime", byteOffset := 8 }, { name := "asserted", type := 17, offset := 2, embedded := false, tag := "", pkgPath := "runtime", byteOffset := 16 }, { name := "missingMethod", type := 9, offset := 3, embedded := false, tag := "", pkgPath := "runtime", byteOffset := 24 }])
  | 149 => some (TypeDesc.array 0 16)
  | 150 => some (TypeDesc.struct #[{ name := "_", type := 149, offset := 0, embedded := false, tag := "", pkgPath := "runtime", byteOffset := 0 }])
  | 151 => some (TypeDesc.struct #[{ name := "_", type := 149, offset := 0, embedded := false, tag := "", pkgPath := "runtime", byteOffset := 0 }])
  | 152 => some (TypeDesc.func #[] #[3] false)
  | 153 => some (TypeDesc.int IntKind.u8)
  | 154 => some (TypeDesc.int IntKind.u8)
  | 155 => some (TypeDesc.func #[161, 161] #[4] false)
  | 156 => some (TypeDesc.pointer 5)
  | 157 => some (TypeDesc.int IntKind.i32)
  | 158 => some (TypeDesc.int IntKind.i32)
  | 159 => some (TypeDesc.struct #[{ name := "Size_", type := 12, offset := 0, embedded := false, tag := "", pkgPath := "", byteOffset := 0 }, { name := "PtrBytes", type := 12, offset := 1, embedded := false, tag := "", pkgPath := "", byteOffset := 8 }, { name := "Hash", type := 128, offset := 2, embedded := false, tag := "", pkgPath := "", byteOffset := 16 }, { name := "TFlag", type := 153, offset := 3, embedded := false, tag := "", pkgPath := "", byteOffset := 20 }, { name := "Align_", type := 5, offset := 4, embedded := false, tag := "", pkgPath := "", byteOffset := 21 }, { name := "FieldAlign_", type := 5, offset := 5, embedded := false, tag := "", pkgPath := "", byteOffset := 22 }, { name := "Kind_", type := 154, offset := 6, embedded := false, tag := "", pkgPath := "", byteOffset := 23 }, { name := "Equal", type := 155, offset := 7, embedded := false, tag := "", pkgPath := "", byteOffset := 24 }, { name := "GCData", type := 156, offset := 8, embedded := false, tag := "", pkgPath := "", byteOffset := 32 }, { name := "Str", type := 157, offset := 9, embedded := false, tag := "", pkgPath := "", byteOffset := 40 }, { name := "PtrToThis", type := 158, offset := 10, embedded := false, tag := "", pkgPath := "", byteOffset := 44 }])
  | 160 => some (TypeDesc.struct #[{ name := "Size_", type := 12, offset := 0, embedded := false, tag := "", pkgPath := "", byteOffset := 0 }, { name := "PtrBytes", type := 12, offset := 1, embedded := false, tag := "", pkgPath := "", byteOffset := 8 }, { name := "Hash", type := 128, offset := 2, embedded := false, tag := "", pkgPath := "", byteOffset := 16 }, { name := "TFlag", type := 153, offset := 3, embedded := false, tag := "", pkgPath := "", byteOffset := 20 }, { name := "Align_", type := 5, offset := 4, embedded := false, tag := "", pkgPath := "", byteOffset := 21 }, { name := "FieldAlign_", type := 5, offset := 5, embedded := false, tag := "", pkgPath := "", byteOffset := 22 }, { name := "Kind_", type := 154, offset := 6, embedded := false, tag := "", pkgPath := "", byteOffset := 23 }, { name := "Equal", type := 155, offset := 7, embedded := false, tag := "", pkgPath := "", byteOffset := 24 }, { name := "GCData", type := 156, offset := 8, embedded := false, tag := "", pkgPath := "", byteOffset := 32 }, { name := "Str", type := 157, offset := 9, embedded := false, tag := "", pkgPath := "", byteOffset := 40 }, { name := "PtrToThis", type := 158, offset := 10, embedded := false, tag := "", pkgPath := "", byteOffset := 44 }])
  | 161 => some TypeDesc.unsafePointer
  | _ => none
set_option maxHeartbeats 4000000 in
theorem und_ok : ∀ t d, und t = some d → Try.prog.underlying t = some d := by
  intro t d h
  unfold und at h
  split at h
  · exact h ▸ Try.underlying0
  · exact h ▸ Try.underlying1
  · exact h ▸ Try.underlying2
  · exact h ▸ Try.underlying3
  · exact h ▸ Try.underlying4
  · exact h ▸ Try.underlying5
  · exact h ▸ Try.underlying6
  · exact h ▸ Try.underlying7
  · exact h ▸ Try.underlying8
  · exact h ▸ Try.underlying9
  · exact h ▸ Try.underlying10
  · exact h ▸ Try.underlying11
  · exact h ▸ Try.underlying12
  · exact h ▸ Try.underlying13
  · exact h ▸ Try.underlying14
  · exact h ▸ Try.underlying15
  · exact h ▸ Try.underlying16
  · exact h ▸ Try.underlying17
  · exact h ▸ Try.underlying18
  · exact h ▸ Try.underlying19
  · exact h ▸ Try.underlying20
  · exact h ▸ Try.underlying21
  · exact h ▸ Try.underlying22
  · exact h ▸ Try.underlying23
  · exact h ▸ Try.underlying24
  · exact h ▸ Try.underlying25
  · exact h ▸ Try.underlying26
  · exact h ▸ Try.underlying27
  · exact h ▸ Try.underlying28
  · exact h ▸ Try.underlying29
  · exact h ▸ Try.underlying30
  · exact h ▸ Try.underlying31
  · exact h ▸ Try.underlying32
  · exact h ▸ Try.underlying33
  · exact h ▸ Try.underlying34
  · exact h ▸ Try.underlying35
  · exact h ▸ Try.underlying36
  · exact h ▸ Try.underlying37
  · exact h ▸ Try.underlying38
  · exact h ▸ Try.underlying39
  · exact h ▸ Try.underlying40
  · exact h ▸ Try.underlying41
  · exact h ▸ Try.underlying42
  · exact h ▸ Try.underlying43
  · exact h ▸ Try.underlying44
  · exact h ▸ Try.underlying45
  · exact h ▸ Try.underlying46
  · exact h ▸ Try.underlying47
  · exact h ▸ Try.underlying48
  · exact h ▸ Try.underlying49
  · exact h ▸ Try.underlying50
  · exact h ▸ Try.underlying51
  · exact h ▸ Try.underlying52
  · exact h ▸ Try.underlying53
  · exact h ▸ Try.underlying54
  · exact h ▸ Try.underlying55
  · exact h ▸ Try.underlying56
  · exact h ▸ Try.underlying57
  · exact h ▸ Try.underlying58
  · exact h ▸ Try.underlying59
  · exact h ▸ Try.underlying60
  · exact h ▸ Try.underlying61
  · exact h ▸ Try.underlying62
  · exact h ▸ Try.underlying63
  · exact h ▸ Try.underlying64
  · exact h ▸ Try.underlying65
  · exact h ▸ Try.underlying66
  · exact h ▸ Try.underlying67
  · exact h ▸ Try.underlying68
  · exact h ▸ Try.underlying69
  · exact h ▸ Try.underlying70
  · exact h ▸ Try.underlying71
  · exact h ▸ Try.underlying72
  · exact h ▸ Try.underlying73
  · exact h ▸ Try.underlying74
  · exact h ▸ Try.underlying75
  · exact h ▸ Try.underlying76
  · exact h ▸ Try.underlying77
  · exact h ▸ Try.underlying78
  · exact h ▸ Try.underlying79
  · exact h ▸ Try.underlying80
  · exact h ▸ Try.underlying81
  · exact h ▸ Try.underlying82
  · exact h ▸ Try.underlying83
  · exact h ▸ Try.underlying84
  · exact h ▸ Try.underlying85
  · exact h ▸ Try.underlying86
  · exact h ▸ Try.underlying87
  · exact h ▸ Try.underlying88
  · exact h ▸ Try.underlying89
  · exact h ▸ Try.underlying90
  · exact h ▸ Try.underlying91
  · exact h ▸ Try.underlying92
  · exact h ▸ Try.underlying93
  · exact h ▸ Try.underlying94
  · exact h ▸ Try.underlying95
  · exact h ▸ Try.underlying96
  · exact h ▸ Try.underlying97
  · exact h ▸ Try.underlying98
  · exact h ▸ Try.underlying99
  · exact h ▸ Try.underlying100
  · exact h ▸ Try.underlying101
  · exact h ▸ Try.underlying102
  · exact h ▸ Try.underlying103
  · exact h ▸ Try.underlying104
  · exact h ▸ Try.underlying105
  · exact h ▸ Try.underlying106
  · exact h ▸ Try.underlying107
  · exact h ▸ Try.underlying108
  · exact h ▸ Try.underlying109
  · exact h ▸ Try.underlying110
  · exact h ▸ Try.underlying111
  · exact h ▸ Try.underlying112
  · exact h ▸ Try.underlying113
  · exact h ▸ Try.underlying114
  · exact h ▸ Try.underlying115
  · exact h ▸ Try.underlying116
  · exact h ▸ Try.underlying117
  · exact h ▸ Try.underlying118
  · exact h ▸ Try.underlying119
  · exact h ▸ Try.underlying120
  · exact h ▸ Try.underlying121
  · exact h ▸ Try.underlying122
  · exact h ▸ Try.underlying123
  · exact h ▸ Try.underlying124
  · exact h ▸ Try.underlying125
  · exact h ▸ Try.underlying126
  · exact h ▸ Try.underlying127
  · exact h ▸ Try.underlying128
  · exact h ▸ Try.underlying129
  · exact h ▸ Try.underlying130
  · exact h ▸ Try.underlying131
  · exact h ▸ Try.underlying132
  · exact h ▸ Try.underlying133
  · exact h ▸ Try.underlying134
  · exact h ▸ Try.underlying135
  · exact h ▸ Try.underlying136
  · exact h ▸ Try.underlying137
  · exact h ▸ Try.underlying138
  · exact h ▸ Try.underlying139
  · exact h ▸ Try.underlying140
  · exact h ▸ Try.underlying141
  · exact h ▸ Try.underlying142
  · exact h ▸ Try.underlying143
  · exact h ▸ Try.underlying144
  · exact h ▸ Try.underlying145
  · exact h ▸ Try.underlying146
  · exact h ▸ Try.underlying147
  · exact h ▸ Try.underlying148
  · exact h ▸ Try.underlying149
  · exact h ▸ Try.underlying150
  · exact h ▸ Try.underlying151
  · exact h ▸ Try.underlying152
  · exact h ▸ Try.underlying153
  · exact h ▸ Try.underlying154
  · exact h ▸ Try.underlying155
  · exact h ▸ Try.underlying156
  · exact h ▸ Try.underlying157
  · exact h ▸ Try.underlying158
  · exact h ▸ Try.underlying159
  · exact h ▸ Try.underlying160
  · exact h ▸ Try.underlying161
  · cases h
noncomputable def inf : TypeId → Option (Value × Nat × Nat)
  | 0 => some ((.tuple #[]), 1, 0)
  | 1 => some (.nilFunc, 1, 8)
  | 2 => some ((.int .i64 0), 1, 8)
  | 3 => some ((.int .i64 0), 1, 8)
  | 4 => some ((.bool false), 1, 1)
  | 5 => some ((.int .u8 0), 1, 1)
  | 6 => some ((.int .u8 0), 1, 1)
  | 7 => some ((.agg #[(.int .i64 0), (.int .i64 0), (.bool false), (.int .u8 0)]), 4, 24)
  | 8 => some ((.agg #[(.int .i64 0), (.int .i64 0), (.bool false), (.int .u8 0)]), 4, 24)
  | 9 => some ((.string ⟨#[]⟩), 1, 16)
  | 10 => some ((.string ⟨#[]⟩), 1, 16)
  | 11 => some ((.string ⟨#[]⟩), 1, 16)
  | 12 => some ((.int .u64 0), 1, 8)
  | 13 => some ((.agg #[(.string ⟨#[]⟩), (.int .u64 0)]), 2, 24)
  | 14 => some ((.agg #[(.string ⟨#[]⟩), (.int .u64 0)]), 2, 24)
  | 15 => some ((.pointer none), 1, 8)
  | 16 => some ((.pointer none), 1, 8)
  | 17 => some ((.pointer none), 1, 8)
  | 18 => some ((.agg #[(.pointer none)]), 1, 8)
  | 19 => some ((.agg #[(.pointer none)]), 1, 8)
  | 20 => some (.nilIface, 1, 16)
  | 21 => some ((.int .i32 0), 1, 4)
  | 22 => some ((.slice none 0 0), 1, 24)
  | 23 => some ((.agg #[(.int .i64 0), (.int .i64 0), (.slice none 0 0), (.slice none 0 0)]), 4, 64)
  | 24 => some ((.agg #[(.int .i64 0), (.int .i64 0), (.slice none 0 0), (.slice none 0 0)]), 4, 64)
  | 25 => some ((.slice none 0 0), 1, 24)
  | 26 => some ((.slice none 0 0), 1, 24)
  | 27 => some (.nilFunc, 1, 8)
  | 28 => some (.nilFunc, 1, 8)
  | 29 => some ((.slice none 0 0), 1, 24)
  | 30 => some ((.int .i64 0), 1, 8)
  | 31 => some ((.tuple #[(.int .i64 0), (.slice none 0 0), (.int .i64 0)]), 1, 0)
  | 32 => some (.nilFunc, 1, 8)
  | 33 => some (.nilFunc, 1, 8)
  | 34 => some ((.slice none 0 0), 1, 24)
  | 35 => some (.nilFunc, 1, 8)
  | 36 => some ((.slice none 0 0), 1, 24)
  | 37 => some (.nilFunc, 1, 8)
  | 38 => some (.nilFunc, 1, 8)
  | 39 => some ((.tuple #[(.slice none 0 0), (.int .i64 0)]), 1, 0)
  | 40 => some (.nilFunc, 1, 8)
  | 41 => some ((.agg #[(.int .i64 0), (.int .i64 0), (.slice none 0 0), (.slice none 0 0)]), 4, 64)
  | 42 => some ((.agg #[(.int .i64 0), (.int .i64 0), (.slice none 0 0), (.slice none 0 0)]), 4, 64)
  | 43 => some ((.tuple #[(.slice none 0 0), (.int .i64 0)]), 1, 0)
  | 44 => some (.nilFunc, 1, 8)
  | 45 => some ((.agg #[(.int .i64 0), (.int .i64 0), (.int .i64 0), (.int .i64 0)]), 4, 32)
  | 46 => some ((.agg #[(.int .i64 0), (.int .i64 0), (.int .i64 0), (.int .i64 0)]), 4, 32)
  | 47 => some ((.agg #[(.string ⟨#[]⟩), (.int .i64 0), (.int .i64 0), (.int .i64 0), (.int .i64 0)]), 5, 48)
  | 48 => some ((.agg #[(.string ⟨#[]⟩), (.int .i64 0), (.int .i64 0), (.int .i64 0), (.int .i64 0)]), 5, 48)
  | 49 => some (.nilFunc, 1, 8)
  | 50 => some ((.slice none 0 0), 1, 24)
  | 51 => some ((.slice none 0 0), 1, 24)
  | 52 => some ((.agg #[(.slice none 0 0), (.slice none 0 0), (.slice none 0 0)]), 3, 72)
  | 53 => some ((.agg #[(.slice none 0 0), (.slice none 0 0), (.slice none 0 0)]), 3, 72)
  | 54 => some ((.tuple #[(.agg #[(.slice none 0 0), (.slice none 0 0), (.slice none 0 0)]), (.int .i64 0)]), 1, 0)
  | 55 => some (.nilFunc, 1, 8)
  | 56 => some (.nilFunc, 1, 8)
  | 57 => some (.nilFunc, 1, 8)
  | 58 => some (.nilFunc, 1, 8)
  | 59 => some ((.agg #[(.int .i64 0), (.int .i64 0), (.slice none 0 0), (.slice none 0 0)]), 4, 64)
  | 60 => some (.nilFunc, 1, 8)
  | 61 => some ((.agg #[(.string ⟨#[]⟩), (.int .i64 0), (.int .i64 0), (.int .i64 0), (.int .i64 0)]), 5, 48)
  | 62 => some (.nilFunc, 1, 8)
  | 63 => some (.nilFunc, 1, 8)
  | 64 => some ((.slice none 0 0), 1, 24)
  | 65 => some (.nilFunc, 1, 8)
  | 66 => some (.nilFunc, 1, 8)
  | 67 => some (.nilFunc, 1, 8)
  | 68 => some (.nilFunc, 1, 8)
  | 69 => some ((.tuple #[(.agg #[(.int .i64 0), (.int .i64 0), (.int .i64 0), (.int .i64 0)]), (.int .i64 0)]), 1, 0)
  | 70 => some (.nilFunc, 1, 8)
  | 71 => some (.nilFunc, 1, 8)
  | 72 => some (.nilFunc, 1, 8)
  | 73 => some (.nilFunc, 1, 8)
  | 74 => some (.nilFunc, 1, 8)
  | 75 => some ((.pointer none), 1, 8)
  | 76 => some ((.tuple #[(.pointer none), (.int .i64 0)]), 1, 0)
  | 77 => some (.nilFunc, 1, 8)
  | 78 => some (.nilFunc, 1, 8)
  | 79 => some (.nilFunc, 1, 8)
  | 80 => some (.nilFunc, 1, 8)
  | 81 => some (.nilFunc, 1, 8)
  | 82 => some (.nilFunc, 1, 8)
  | 83 => some ((.tuple #[(.slice none 0 0), (.int .i64 0)]), 1, 0)
  | 84 => some (.nilFunc, 1, 8)
  | 85 => some (.nilFunc, 1, 8)
  | 86 => some ((.slice none 0 0), 1, 24)
  | 87 => some (.nilFunc, 1, 8)
  | 88 => some (.nilFunc, 1, 8)
  | 89 => some (.nilFunc, 1, 8)
  | 90 => some ((.map none), 1, 8)
  | 91 => some (.nilFunc, 1, 8)
  | 92 => some (.nilFunc, 1, 8)
  | 93 => some (.nilFunc, 1, 8)
  | 94 => some (.nilFunc, 1, 8)
  | 95 => some (.nilFunc, 1, 8)
  | 96 => some ((.slice none 0 0), 1, 24)
  | 97 => some ((.agg #[(.int .i64 0), (.int .i64 0), (.int .i64 0), (.int .i64 0), (.slice none 0 0), (.int .i64 0)]), 6, 64)
  | 98 => some ((.agg #[(.int .i64 0), (.int .i64 0), (.int .i64 0), (.int .i64 0), (.slice none 0 0), (.int .i64 0)]), 6, 64)
  | 99 => some (.nilFunc, 1, 8)
  | 100 => some (.nilFunc, 1, 8)
  | 101 => some (.nilFunc, 1, 8)
  | 102 => some (.nilFunc, 1, 8)
  | 103 => some ((.agg #[(.int .i64 0), (.int .i64 0), (.int .i64 0), (.int .i64 0), (.int .i64 0)]), 5, 40)
  | 104 => some ((.agg #[(.int .i64 0), (.int .i64 0), (.int .i64 0), (.int .i64 0), (.int .i64 0)]), 5, 40)
  | 105 => some (.nilFunc, 1, 8)
  | 106 => some (.nilFunc, 1, 8)
  | 107 => some (.nilFunc, 1, 8)
  | 108 => some (.nilFunc, 1, 8)
  | 109 => some ((.int .u64 0), 1, 8)
  | 110 => some (.nilFunc, 1, 8)
  | 111 => some (.nilFunc, 1, 8)
  | 112 => some (.nilFunc, 1, 8)
  | 113 => some (.nilFunc, 1, 8)
  | 114 => some (.nilFunc, 1, 8)
  | 115 => some (.nilFunc, 1, 8)
  | 116 => some (.nilFunc, 1, 8)
  | 117 => some (.nilFunc, 1, 8)
  | 118 => some (.nilFunc, 1, 8)
  | 119 => some (.nilFunc, 1, 8)
  | 120 => some ((.int .i64 0), 1, 8)
  | 121 => some ((.tuple #[(.int .i64 0), (.int .i64 0)]), 1, 0)
  | 122 => some (.nilFunc, 1, 8)
  | 123 => some (.nilFunc, 1, 8)
  | 124 => some (.nilFunc, 1, 8)
  | 125 => some ((.tuple #[(.int .i64 0), (.bool false)]), 1, 0)
  | 126 => some (.nilFunc, 1, 8)
  | 127 => some (.nilFunc, 1, 8)
  | 128 => some ((.int .u32 0), 1, 4)
  | 129 => some (.nilFunc, 1, 8)
  | 130 => some ((.int .u64 0), 1, 8)
  | 131 => some (.nilFunc, 1, 8)
  | 132 => some (.nilFunc, 1, 8)
  | 133 => some (.nilFunc, 1, 8)
  | 134 => some (.nilFunc, 1, 8)
  | 135 => some (.nilFunc, 1, 8)
  | 136 => some ((.int .u64 0), 1, 8)
  | 137 => some (.nilFunc, 1, 8)
  | 138 => some (.nilFunc, 1, 8)
  | 139 => some (.nilFunc, 1, 8)
  | 140 => some ((.pointer none), 1, 8)
  | 141 => some (.nilFunc, 1, 8)
  | 142 => some ((.pointer none), 1, 8)
  | 143 => some ((.tuple #[(.int .i64 0), (.int .i64 0)]), 1, 0)
  | 144 => some (.nilFunc, 1, 8)
  | 145 => some (.nilFunc, 1, 8)
  | 146 => some (.nilFunc, 1, 8)
  | 147 => some ((.agg #[(.pointer none), (.pointer none), (.pointer none), (.string ⟨#[]⟩)]), 4, 40)
  | 148 => some ((.agg #[(.pointer none), (.pointer none), (.pointer none), (.string ⟨#[]⟩)]), 4, 40)
  | 149 => some ((.agg #[]), 0, 0)
  | 150 => some ((.agg #[]), 0, 0)
  | 151 => some ((.agg #[]), 0, 0)
  | 152 => some (.nilFunc, 1, 8)
  | 153 => some ((.int .u8 0), 1, 1)
  | 154 => some ((.int .u8 0), 1, 1)
  | 155 => some (.nilFunc, 1, 8)
  | 156 => some ((.pointer none), 1, 8)
  | 157 => some ((.int .i32 0), 1, 4)
  | 158 => some ((.int .i32 0), 1, 4)
  | 159 => some ((.agg #[(.int .u64 0), (.int .u64 0), (.int .u32 0), (.int .u8 0), (.int .u8 0), (.int .u8 0), (.int .u8 0), .nilFunc, (.pointer none), (.int .i32 0), (.int .i32 0)]), 11, 48)
  | 160 => some ((.agg #[(.int .u64 0), (.int .u64 0), (.int .u32 0), (.int .u8 0), (.int .u8 0), (.int .u8 0), (.int .u8 0), .nilFunc, (.pointer none), (.int .i32 0), (.int .i32 0)]), 11, 48)
  | 161 => some ((.pointer none), 1, 8)
  | _ => none
theorem inf_mk {t : TypeId} {z : Value} {s b : Nat} (h : (Try.prog.info? t).map (fun i => (i.zero, i.size, i.bytes)) = some (some z, s, b)) : ∃ i, Try.prog.info? t = some i ∧ i.zero = some z ∧ i.size = s ∧ i.bytes = b := by
  cases hi : Try.prog.info? t with
  | none => rw [hi] at h; cases h
  | some i => rw [hi] at h; simp only [Option.map_some, Option.some.injEq, Prod.mk.injEq] at h; exact ⟨i, rfl, h.1, h.2.1, h.2.2⟩
theorem inf0 : (Try.prog.info? 0).map (fun i => (i.zero, i.size, i.bytes)) = some (some (.tuple #[]), 1, 0) := by kernel_rfl
theorem inf1 : (Try.prog.info? 1).map (fun i => (i.zero, i.size, i.bytes)) = some (some .nilFunc, 1, 8) := by kernel_rfl
theorem inf2 : (Try.prog.info? 2).map (fun i => (i.zero, i.size, i.bytes)) = some (some (.int .i64 0), 1, 8) := by kernel_rfl
theorem inf3 : (Try.prog.info? 3).map (fun i => (i.zero, i.size, i.bytes)) = some (some (.int .i64 0), 1, 8) := by kernel_rfl
theorem inf4 : (Try.prog.info? 4).map (fun i => (i.zero, i.size, i.bytes)) = some (some (.bool false), 1, 1) := by kernel_rfl
theorem inf5 : (Try.prog.info? 5).map (fun i => (i.zero, i.size, i.bytes)) = some (some (.int .u8 0), 1, 1) := by kernel_rfl
theorem inf6 : (Try.prog.info? 6).map (fun i => (i.zero, i.size, i.bytes)) = some (some (.int .u8 0), 1, 1) := by kernel_rfl
theorem inf7 : (Try.prog.info? 7).map (fun i => (i.zero, i.size, i.bytes)) = some (some (.agg #[(.int .i64 0), (.int .i64 0), (.bool false), (.int .u8 0)]), 4, 24) := by kernel_rfl
theorem inf8 : (Try.prog.info? 8).map (fun i => (i.zero, i.size, i.bytes)) = some (some (.agg #[(.int .i64 0), (.int .i64 0), (.bool false), (.int .u8 0)]), 4, 24) := by kernel_rfl
theorem inf9 : (Try.prog.info? 9).map (fun i => (i.zero, i.size, i.bytes)) = some (some (.string ⟨#[]⟩), 1, 16) := by kernel_rfl
theorem inf10 : (Try.prog.info? 10).map (fun i => (i.zero, i.size, i.bytes)) = some (some (.string ⟨#[]⟩), 1, 16) := by kernel_rfl
theorem inf11 : (Try.prog.info? 11).map (fun i => (i.zero, i.size, i.bytes)) = some (some (.string ⟨#[]⟩), 1, 16) := by kernel_rfl
theorem inf12 : (Try.prog.info? 12).map (fun i => (i.zero, i.size, i.bytes)) = some (some (.int .u64 0), 1, 8) := by kernel_rfl
theorem inf13 : (Try.prog.info? 13).map (fun i => (i.zero, i.size, i.bytes)) = some (some (.agg #[(.string ⟨#[]⟩), (.int .u64 0)]), 2, 24) := by kernel_rfl
theorem inf14 : (Try.prog.info? 14).map (fun i => (i.zero, i.size, i.bytes)) = some (some (.agg #[(.string ⟨#[]⟩), (.int .u64 0)]), 2, 24) := by kernel_rfl
theorem inf15 : (Try.prog.info? 15).map (fun i => (i.zero, i.size, i.bytes)) = some (some (.pointer none), 1, 8) := by kernel_rfl
theorem inf16 : (Try.prog.info? 16).map (fun i => (i.zero, i.size, i.bytes)) = some (some (.pointer none), 1, 8) := by kernel_rfl
theorem inf17 : (Try.prog.info? 17).map (fun i => (i.zero, i.size, i.bytes)) = some (some (.pointer none), 1, 8) := by kernel_rfl
theorem inf18 : (Try.prog.info? 18).map (fun i => (i.zero, i.size, i.bytes)) = some (some (.agg #[(.pointer none)]), 1, 8) := by kernel_rfl
theorem inf19 : (Try.prog.info? 19).map (fun i => (i.zero, i.size, i.bytes)) = some (some (.agg #[(.pointer none)]), 1, 8) := by kernel_rfl
theorem inf20 : (Try.prog.info? 20).map (fun i => (i.zero, i.size, i.bytes)) = some (some .nilIface, 1, 16) := by kernel_rfl
theorem inf21 : (Try.prog.info? 21).map (fun i => (i.zero, i.size, i.bytes)) = some (some (.int .i32 0), 1, 4) := by kernel_rfl
theorem inf22 : (Try.prog.info? 22).map (fun i => (i.zero, i.size, i.bytes)) = some (some (.slice none 0 0), 1, 24) := by kernel_rfl
theorem inf23 : (Try.prog.info? 23).map (fun i => (i.zero, i.size, i.bytes)) = some (some (.agg #[(.int .i64 0), (.int .i64 0), (.slice none 0 0), (.slice none 0 0)]), 4, 64) := by kernel_rfl
theorem inf24 : (Try.prog.info? 24).map (fun i => (i.zero, i.size, i.bytes)) = some (some (.agg #[(.int .i64 0), (.int .i64 0), (.slice none 0 0), (.slice none 0 0)]), 4, 64) := by kernel_rfl
theorem inf25 : (Try.prog.info? 25).map (fun i => (i.zero, i.size, i.bytes)) = some (some (.slice none 0 0), 1, 24) := by kernel_rfl
theorem inf26 : (Try.prog.info? 26).map (fun i => (i.zero, i.size, i.bytes)) = some (some (.slice none 0 0), 1, 24) := by kernel_rfl
theorem inf27 : (Try.prog.info? 27).map (fun i => (i.zero, i.size, i.bytes)) = some (some .nilFunc, 1, 8) := by kernel_rfl
theorem inf28 : (Try.prog.info? 28).map (fun i => (i.zero, i.size, i.bytes)) = some (some .nilFunc, 1, 8) := by kernel_rfl
theorem inf29 : (Try.prog.info? 29).map (fun i => (i.zero, i.size, i.bytes)) = some (some (.slice none 0 0), 1, 24) := by kernel_rfl
theorem inf30 : (Try.prog.info? 30).map (fun i => (i.zero, i.size, i.bytes)) = some (some (.int .i64 0), 1, 8) := by kernel_rfl
theorem inf31 : (Try.prog.info? 31).map (fun i => (i.zero, i.size, i.bytes)) = some (some (.tuple #[(.int .i64 0), (.slice none 0 0), (.int .i64 0)]), 1, 0) := by kernel_rfl
theorem inf32 : (Try.prog.info? 32).map (fun i => (i.zero, i.size, i.bytes)) = some (some .nilFunc, 1, 8) := by kernel_rfl
theorem inf33 : (Try.prog.info? 33).map (fun i => (i.zero, i.size, i.bytes)) = some (some .nilFunc, 1, 8) := by kernel_rfl
theorem inf34 : (Try.prog.info? 34).map (fun i => (i.zero, i.size, i.bytes)) = some (some (.slice none 0 0), 1, 24) := by kernel_rfl
theorem inf35 : (Try.prog.info? 35).map (fun i => (i.zero, i.size, i.bytes)) = some (some .nilFunc, 1, 8) := by kernel_rfl
theorem inf36 : (Try.prog.info? 36).map (fun i => (i.zero, i.size, i.bytes)) = some (some (.slice none 0 0), 1, 24) := by kernel_rfl
theorem inf37 : (Try.prog.info? 37).map (fun i => (i.zero, i.size, i.bytes)) = some (some .nilFunc, 1, 8) := by kernel_rfl
theorem inf38 : (Try.prog.info? 38).map (fun i => (i.zero, i.size, i.bytes)) = some (some .nilFunc, 1, 8) := by kernel_rfl
theorem inf39 : (Try.prog.info? 39).map (fun i => (i.zero, i.size, i.bytes)) = some (some (.tuple #[(.slice none 0 0), (.int .i64 0)]), 1, 0) := by kernel_rfl
theorem inf40 : (Try.prog.info? 40).map (fun i => (i.zero, i.size, i.bytes)) = some (some .nilFunc, 1, 8) := by kernel_rfl
theorem inf41 : (Try.prog.info? 41).map (fun i => (i.zero, i.size, i.bytes)) = some (some (.agg #[(.int .i64 0), (.int .i64 0), (.slice none 0 0), (.slice none 0 0)]), 4, 64) := by kernel_rfl
theorem inf42 : (Try.prog.info? 42).map (fun i => (i.zero, i.size, i.bytes)) = some (some (.agg #[(.int .i64 0), (.int .i64 0), (.slice none 0 0), (.slice none 0 0)]), 4, 64) := by kernel_rfl
theorem inf43 : (Try.prog.info? 43).map (fun i => (i.zero, i.size, i.bytes)) = some (some (.tuple #[(.slice none 0 0), (.int .i64 0)]), 1, 0) := by kernel_rfl
theorem inf44 : (Try.prog.info? 44).map (fun i => (i.zero, i.size, i.bytes)) = some (some .nilFunc, 1, 8) := by kernel_rfl
theorem inf45 : (Try.prog.info? 45).map (fun i => (i.zero, i.size, i.bytes)) = some (some (.agg #[(.int .i64 0), (.int .i64 0), (.int .i64 0), (.int .i64 0)]), 4, 32) := by kernel_rfl
theorem inf46 : (Try.prog.info? 46).map (fun i => (i.zero, i.size, i.bytes)) = some (some (.agg #[(.int .i64 0), (.int .i64 0), (.int .i64 0), (.int .i64 0)]), 4, 32) := by kernel_rfl
theorem inf47 : (Try.prog.info? 47).map (fun i => (i.zero, i.size, i.bytes)) = some (some (.agg #[(.string ⟨#[]⟩), (.int .i64 0), (.int .i64 0), (.int .i64 0), (.int .i64 0)]), 5, 48) := by kernel_rfl
theorem inf48 : (Try.prog.info? 48).map (fun i => (i.zero, i.size, i.bytes)) = some (some (.agg #[(.string ⟨#[]⟩), (.int .i64 0), (.int .i64 0), (.int .i64 0), (.int .i64 0)]), 5, 48) := by kernel_rfl
theorem inf49 : (Try.prog.info? 49).map (fun i => (i.zero, i.size, i.bytes)) = some (some .nilFunc, 1, 8) := by kernel_rfl
theorem inf50 : (Try.prog.info? 50).map (fun i => (i.zero, i.size, i.bytes)) = some (some (.slice none 0 0), 1, 24) := by kernel_rfl
theorem inf51 : (Try.prog.info? 51).map (fun i => (i.zero, i.size, i.bytes)) = some (some (.slice none 0 0), 1, 24) := by kernel_rfl
theorem inf52 : (Try.prog.info? 52).map (fun i => (i.zero, i.size, i.bytes)) = some (some (.agg #[(.slice none 0 0), (.slice none 0 0), (.slice none 0 0)]), 3, 72) := by kernel_rfl
theorem inf53 : (Try.prog.info? 53).map (fun i => (i.zero, i.size, i.bytes)) = some (some (.agg #[(.slice none 0 0), (.slice none 0 0), (.slice none 0 0)]), 3, 72) := by kernel_rfl
theorem inf54 : (Try.prog.info? 54).map (fun i => (i.zero, i.size, i.bytes)) = some (some (.tuple #[(.agg #[(.slice none 0 0), (.slice none 0 0), (.slice none 0 0)]), (.int .i64 0)]), 1, 0) := by kernel_rfl
theorem inf55 : (Try.prog.info? 55).map (fun i => (i.zero, i.size, i.bytes)) = some (some .nilFunc, 1, 8) := by kernel_rfl
theorem inf56 : (Try.prog.info? 56).map (fun i => (i.zero, i.size, i.bytes)) = some (some .nilFunc, 1, 8) := by kernel_rfl
theorem inf57 : (Try.prog.info? 57).map (fun i => (i.zero, i.size, i.bytes)) = some (some .nilFunc, 1, 8) := by kernel_rfl
theorem inf58 : (Try.prog.info? 58).map (fun i => (i.zero, i.size, i.bytes)) = some (some .nilFunc, 1, 8) := by kernel_rfl
theorem inf59 : (Try.prog.info? 59).map (fun i => (i.zero, i.size, i.bytes)) = some (some (.agg #[(.int .i64 0), (.int .i64 0), (.slice none 0 0), (.slice none 0 0)]), 4, 64) := by kernel_rfl
theorem inf60 : (Try.prog.info? 60).map (fun i => (i.zero, i.size, i.bytes)) = some (some .nilFunc, 1, 8) := by kernel_rfl
theorem inf61 : (Try.prog.info? 61).map (fun i => (i.zero, i.size, i.bytes)) = some (some (.agg #[(.string ⟨#[]⟩), (.int .i64 0), (.int .i64 0), (.int .i64 0), (.int .i64 0)]), 5, 48) := by kernel_rfl
theorem inf62 : (Try.prog.info? 62).map (fun i => (i.zero, i.size, i.bytes)) = some (some .nilFunc, 1, 8) := by kernel_rfl
theorem inf63 : (Try.prog.info? 63).map (fun i => (i.zero, i.size, i.bytes)) = some (some .nilFunc, 1, 8) := by kernel_rfl
theorem inf64 : (Try.prog.info? 64).map (fun i => (i.zero, i.size, i.bytes)) = some (some (.slice none 0 0), 1, 24) := by kernel_rfl
theorem inf65 : (Try.prog.info? 65).map (fun i => (i.zero, i.size, i.bytes)) = some (some .nilFunc, 1, 8) := by kernel_rfl
theorem inf66 : (Try.prog.info? 66).map (fun i => (i.zero, i.size, i.bytes)) = some (some .nilFunc, 1, 8) := by kernel_rfl
theorem inf67 : (Try.prog.info? 67).map (fun i => (i.zero, i.size, i.bytes)) = some (some .nilFunc, 1, 8) := by kernel_rfl
theorem inf68 : (Try.prog.info? 68).map (fun i => (i.zero, i.size, i.bytes)) = some (some .nilFunc, 1, 8) := by kernel_rfl
theorem inf69 : (Try.prog.info? 69).map (fun i => (i.zero, i.size, i.bytes)) = some (some (.tuple #[(.agg #[(.int .i64 0), (.int .i64 0), (.int .i64 0), (.int .i64 0)]), (.int .i64 0)]), 1, 0) := by kernel_rfl
theorem inf70 : (Try.prog.info? 70).map (fun i => (i.zero, i.size, i.bytes)) = some (some .nilFunc, 1, 8) := by kernel_rfl
theorem inf71 : (Try.prog.info? 71).map (fun i => (i.zero, i.size, i.bytes)) = some (some .nilFunc, 1, 8) := by kernel_rfl
theorem inf72 : (Try.prog.info? 72).map (fun i => (i.zero, i.size, i.bytes)) = some (some .nilFunc, 1, 8) := by kernel_rfl
theorem inf73 : (Try.prog.info? 73).map (fun i => (i.zero, i.size, i.bytes)) = some (some .nilFunc, 1, 8) := by kernel_rfl
theorem inf74 : (Try.prog.info? 74).map (fun i => (i.zero, i.size, i.bytes)) = some (some .nilFunc, 1, 8) := by kernel_rfl
theorem inf75 : (Try.prog.info? 75).map (fun i => (i.zero, i.size, i.bytes)) = some (some (.pointer none), 1, 8) := by kernel_rfl
theorem inf76 : (Try.prog.info? 76).map (fun i => (i.zero, i.size, i.bytes)) = some (some (.tuple #[(.pointer none), (.int .i64 0)]), 1, 0) := by kernel_rfl
theorem inf77 : (Try.prog.info? 77).map (fun i => (i.zero, i.size, i.bytes)) = some (some .nilFunc, 1, 8) := by kernel_rfl
theorem inf78 : (Try.prog.info? 78).map (fun i => (i.zero, i.size, i.bytes)) = some (some .nilFunc, 1, 8) := by kernel_rfl
theorem inf79 : (Try.prog.info? 79).map (fun i => (i.zero, i.size, i.bytes)) = some (some .nilFunc, 1, 8) := by kernel_rfl
theorem inf80 : (Try.prog.info? 80).map (fun i => (i.zero, i.size, i.bytes)) = some (some .nilFunc, 1, 8) := by kernel_rfl
theorem inf81 : (Try.prog.info? 81).map (fun i => (i.zero, i.size, i.bytes)) = some (some .nilFunc, 1, 8) := by kernel_rfl
theorem inf82 : (Try.prog.info? 82).map (fun i => (i.zero, i.size, i.bytes)) = some (some .nilFunc, 1, 8) := by kernel_rfl
theorem inf83 : (Try.prog.info? 83).map (fun i => (i.zero, i.size, i.bytes)) = some (some (.tuple #[(.slice none 0 0), (.int .i64 0)]), 1, 0) := by kernel_rfl
theorem inf84 : (Try.prog.info? 84).map (fun i => (i.zero, i.size, i.bytes)) = some (some .nilFunc, 1, 8) := by kernel_rfl
theorem inf85 : (Try.prog.info? 85).map (fun i => (i.zero, i.size, i.bytes)) = some (some .nilFunc, 1, 8) := by kernel_rfl
theorem inf86 : (Try.prog.info? 86).map (fun i => (i.zero, i.size, i.bytes)) = some (some (.slice none 0 0), 1, 24) := by kernel_rfl
theorem inf87 : (Try.prog.info? 87).map (fun i => (i.zero, i.size, i.bytes)) = some (some .nilFunc, 1, 8) := by kernel_rfl
theorem inf88 : (Try.prog.info? 88).map (fun i => (i.zero, i.size, i.bytes)) = some (some .nilFunc, 1, 8) := by kernel_rfl
theorem inf89 : (Try.prog.info? 89).map (fun i => (i.zero, i.size, i.bytes)) = some (some .nilFunc, 1, 8) := by kernel_rfl
theorem inf90 : (Try.prog.info? 90).map (fun i => (i.zero, i.size, i.bytes)) = some (some (.map none), 1, 8) := by kernel_rfl
theorem inf91 : (Try.prog.info? 91).map (fun i => (i.zero, i.size, i.bytes)) = some (some .nilFunc, 1, 8) := by kernel_rfl
theorem inf92 : (Try.prog.info? 92).map (fun i => (i.zero, i.size, i.bytes)) = some (some .nilFunc, 1, 8) := by kernel_rfl
theorem inf93 : (Try.prog.info? 93).map (fun i => (i.zero, i.size, i.bytes)) = some (some .nilFunc, 1, 8) := by kernel_rfl
theorem inf94 : (Try.prog.info? 94).map (fun i => (i.zero, i.size, i.bytes)) = some (some .nilFunc, 1, 8) := by kernel_rfl
theorem inf95 : (Try.prog.info? 95).map (fun i => (i.zero, i.size, i.bytes)) = some (some .nilFunc, 1, 8) := by kernel_rfl
theorem inf96 : (Try.prog.info? 96).map (fun i => (i.zero, i.size, i.bytes)) = some (some (.slice none 0 0), 1, 24) := by kernel_rfl
theorem inf97 : (Try.prog.info? 97).map (fun i => (i.zero, i.size, i.bytes)) = some (some (.agg #[(.int .i64 0), (.int .i64 0), (.int .i64 0), (.int .i64 0), (.slice none 0 0), (.int .i64 0)]), 6, 64) := by kernel_rfl
theorem inf98 : (Try.prog.info? 98).map (fun i => (i.zero, i.size, i.bytes)) = some (some (.agg #[(.int .i64 0), (.int .i64 0), (.int .i64 0), (.int .i64 0), (.slice none 0 0), (.int .i64 0)]), 6, 64) := by kernel_rfl
theorem inf99 : (Try.prog.info? 99).map (fun i => (i.zero, i.size, i.bytes)) = some (some .nilFunc, 1, 8) := by kernel_rfl
theorem inf100 : (Try.prog.info? 100).map (fun i => (i.zero, i.size, i.bytes)) = some (some .nilFunc, 1, 8) := by kernel_rfl
theorem inf101 : (Try.prog.info? 101).map (fun i => (i.zero, i.size, i.bytes)) = some (some .nilFunc, 1, 8) := by kernel_rfl
theorem inf102 : (Try.prog.info? 102).map (fun i => (i.zero, i.size, i.bytes)) = some (some .nilFunc, 1, 8) := by kernel_rfl
theorem inf103 : (Try.prog.info? 103).map (fun i => (i.zero, i.size, i.bytes)) = some (some (.agg #[(.int .i64 0), (.int .i64 0), (.int .i64 0), (.int .i64 0), (.int .i64 0)]), 5, 40) := by kernel_rfl
theorem inf104 : (Try.prog.info? 104).map (fun i => (i.zero, i.size, i.bytes)) = some (some (.agg #[(.int .i64 0), (.int .i64 0), (.int .i64 0), (.int .i64 0), (.int .i64 0)]), 5, 40) := by kernel_rfl
theorem inf105 : (Try.prog.info? 105).map (fun i => (i.zero, i.size, i.bytes)) = some (some .nilFunc, 1, 8) := by kernel_rfl
theorem inf106 : (Try.prog.info? 106).map (fun i => (i.zero, i.size, i.bytes)) = some (some .nilFunc, 1, 8) := by kernel_rfl
theorem inf107 : (Try.prog.info? 107).map (fun i => (i.zero, i.size, i.bytes)) = some (some .nilFunc, 1, 8) := by kernel_rfl
theorem inf108 : (Try.prog.info? 108).map (fun i => (i.zero, i.size, i.bytes)) = some (some .nilFunc, 1, 8) := by kernel_rfl
theorem inf109 : (Try.prog.info? 109).map (fun i => (i.zero, i.size, i.bytes)) = some (some (.int .u64 0), 1, 8) := by kernel_rfl
theorem inf110 : (Try.prog.info? 110).map (fun i => (i.zero, i.size, i.bytes)) = some (some .nilFunc, 1, 8) := by kernel_rfl
theorem inf111 : (Try.prog.info? 111).map (fun i => (i.zero, i.size, i.bytes)) = some (some .nilFunc, 1, 8) := by kernel_rfl
theorem inf112 : (Try.prog.info? 112).map (fun i => (i.zero, i.size, i.bytes)) = some (some .nilFunc, 1, 8) := by kernel_rfl
theorem inf113 : (Try.prog.info? 113).map (fun i => (i.zero, i.size, i.bytes)) = some (some .nilFunc, 1, 8) := by kernel_rfl
theorem inf114 : (Try.prog.info? 114).map (fun i => (i.zero, i.size, i.bytes)) = some (some .nilFunc, 1, 8) := by kernel_rfl
theorem inf115 : (Try.prog.info? 115).map (fun i => (i.zero, i.size, i.bytes)) = some (some .nilFunc, 1, 8) := by kernel_rfl
theorem inf116 : (Try.prog.info? 116).map (fun i => (i.zero, i.size, i.bytes)) = some (some .nilFunc, 1, 8) := by kernel_rfl
theorem inf117 : (Try.prog.info? 117).map (fun i => (i.zero, i.size, i.bytes)) = some (some .nilFunc, 1, 8) := by kernel_rfl
theorem inf118 : (Try.prog.info? 118).map (fun i => (i.zero, i.size, i.bytes)) = some (some .nilFunc, 1, 8) := by kernel_rfl
theorem inf119 : (Try.prog.info? 119).map (fun i => (i.zero, i.size, i.bytes)) = some (some .nilFunc, 1, 8) := by kernel_rfl
theorem inf120 : (Try.prog.info? 120).map (fun i => (i.zero, i.size, i.bytes)) = some (some (.int .i64 0), 1, 8) := by kernel_rfl
theorem inf121 : (Try.prog.info? 121).map (fun i => (i.zero, i.size, i.bytes)) = some (some (.tuple #[(.int .i64 0), (.int .i64 0)]), 1, 0) := by kernel_rfl
theorem inf122 : (Try.prog.info? 122).map (fun i => (i.zero, i.size, i.bytes)) = some (some .nilFunc, 1, 8) := by kernel_rfl
theorem inf123 : (Try.prog.info? 123).map (fun i => (i.zero, i.size, i.bytes)) = some (some .nilFunc, 1, 8) := by kernel_rfl
theorem inf124 : (Try.prog.info? 124).map (fun i => (i.zero, i.size, i.bytes)) = some (some .nilFunc, 1, 8) := by kernel_rfl
theorem inf125 : (Try.prog.info? 125).map (fun i => (i.zero, i.size, i.bytes)) = some (some (.tuple #[(.int .i64 0), (.bool false)]), 1, 0) := by kernel_rfl
theorem inf126 : (Try.prog.info? 126).map (fun i => (i.zero, i.size, i.bytes)) = some (some .nilFunc, 1, 8) := by kernel_rfl
theorem inf127 : (Try.prog.info? 127).map (fun i => (i.zero, i.size, i.bytes)) = some (some .nilFunc, 1, 8) := by kernel_rfl
theorem inf128 : (Try.prog.info? 128).map (fun i => (i.zero, i.size, i.bytes)) = some (some (.int .u32 0), 1, 4) := by kernel_rfl
theorem inf129 : (Try.prog.info? 129).map (fun i => (i.zero, i.size, i.bytes)) = some (some .nilFunc, 1, 8) := by kernel_rfl
theorem inf130 : (Try.prog.info? 130).map (fun i => (i.zero, i.size, i.bytes)) = some (some (.int .u64 0), 1, 8) := by kernel_rfl
theorem inf131 : (Try.prog.info? 131).map (fun i => (i.zero, i.size, i.bytes)) = some (some .nilFunc, 1, 8) := by kernel_rfl
theorem inf132 : (Try.prog.info? 132).map (fun i => (i.zero, i.size, i.bytes)) = some (some .nilFunc, 1, 8) := by kernel_rfl
theorem inf133 : (Try.prog.info? 133).map (fun i => (i.zero, i.size, i.bytes)) = some (some .nilFunc, 1, 8) := by kernel_rfl
theorem inf134 : (Try.prog.info? 134).map (fun i => (i.zero, i.size, i.bytes)) = some (some .nilFunc, 1, 8) := by kernel_rfl
theorem inf135 : (Try.prog.info? 135).map (fun i => (i.zero, i.size, i.bytes)) = some (some .nilFunc, 1, 8) := by kernel_rfl
theorem inf136 : (Try.prog.info? 136).map (fun i => (i.zero, i.size, i.bytes)) = some (some (.int .u64 0), 1, 8) := by kernel_rfl
theorem inf137 : (Try.prog.info? 137).map (fun i => (i.zero, i.size, i.bytes)) = some (some .nilFunc, 1, 8) := by kernel_rfl
theorem inf138 : (Try.prog.info? 138).map (fun i => (i.zero, i.size, i.bytes)) = some (some .nilFunc, 1, 8) := by kernel_rfl
theorem inf139 : (Try.prog.info? 139).map (fun i => (i.zero, i.size, i.bytes)) = some (some .nilFunc, 1, 8) := by kernel_rfl
theorem inf140 : (Try.prog.info? 140).map (fun i => (i.zero, i.size, i.bytes)) = some (some (.pointer none), 1, 8) := by kernel_rfl
theorem inf141 : (Try.prog.info? 141).map (fun i => (i.zero, i.size, i.bytes)) = some (some .nilFunc, 1, 8) := by kernel_rfl
theorem inf142 : (Try.prog.info? 142).map (fun i => (i.zero, i.size, i.bytes)) = some (some (.pointer none), 1, 8) := by kernel_rfl
theorem inf143 : (Try.prog.info? 143).map (fun i => (i.zero, i.size, i.bytes)) = some (some (.tuple #[(.int .i64 0), (.int .i64 0)]), 1, 0) := by kernel_rfl
theorem inf144 : (Try.prog.info? 144).map (fun i => (i.zero, i.size, i.bytes)) = some (some .nilFunc, 1, 8) := by kernel_rfl
theorem inf145 : (Try.prog.info? 145).map (fun i => (i.zero, i.size, i.bytes)) = some (some .nilFunc, 1, 8) := by kernel_rfl
theorem inf146 : (Try.prog.info? 146).map (fun i => (i.zero, i.size, i.bytes)) = some (some .nilFunc, 1, 8) := by kernel_rfl
theorem inf147 : (Try.prog.info? 147).map (fun i => (i.zero, i.size, i.bytes)) = some (some (.agg #[(.pointer none), (.pointer none), (.pointer none), (.string ⟨#[]⟩)]), 4, 40) := by kernel_rfl
theorem inf148 : (Try.prog.info? 148).map (fun i => (i.zero, i.size, i.bytes)) = some (some (.agg #[(.pointer none), (.pointer none), (.pointer none), (.string ⟨#[]⟩)]), 4, 40) := by kernel_rfl
theorem inf149 : (Try.prog.info? 149).map (fun i => (i.zero, i.size, i.bytes)) = some (some (.agg #[]), 0, 0) := by kernel_rfl
theorem inf150 : (Try.prog.info? 150).map (fun i => (i.zero, i.size, i.bytes)) = some (some (.agg #[]), 0, 0) := by kernel_rfl
theorem inf151 : (Try.prog.info? 151).map (fun i => (i.zero, i.size, i.bytes)) = some (some (.agg #[]), 0, 0) := by kernel_rfl
theorem inf152 : (Try.prog.info? 152).map (fun i => (i.zero, i.size, i.bytes)) = some (some .nilFunc, 1, 8) := by kernel_rfl
theorem inf153 : (Try.prog.info? 153).map (fun i => (i.zero, i.size, i.bytes)) = some (some (.int .u8 0), 1, 1) := by kernel_rfl
theorem inf154 : (Try.prog.info? 154).map (fun i => (i.zero, i.size, i.bytes)) = some (some (.int .u8 0), 1, 1) := by kernel_rfl
theorem inf155 : (Try.prog.info? 155).map (fun i => (i.zero, i.size, i.bytes)) = some (some .nilFunc, 1, 8) := by kernel_rfl
theorem inf156 : (Try.prog.info? 156).map (fun i => (i.zero, i.size, i.bytes)) = some (some (.pointer none), 1, 8) := by kernel_rfl
theorem inf157 : (Try.prog.info? 157).map (fun i => (i.zero, i.size, i.bytes)) = some (some (.int .i32 0), 1, 4) := by kernel_rfl
theorem inf158 : (Try.prog.info? 158).map (fun i => (i.zero, i.size, i.bytes)) = some (some (.int .i32 0), 1, 4) := by kernel_rfl
theorem inf159 : (Try.prog.info? 159).map (fun i => (i.zero, i.size, i.bytes)) = some (some (.agg #[(.int .u64 0), (.int .u64 0), (.int .u32 0), (.int .u8 0), (.int .u8 0), (.int .u8 0), (.int .u8 0), .nilFunc, (.pointer none), (.int .i32 0), (.int .i32 0)]), 11, 48) := by kernel_rfl
theorem inf160 : (Try.prog.info? 160).map (fun i => (i.zero, i.size, i.bytes)) = some (some (.agg #[(.int .u64 0), (.int .u64 0), (.int .u32 0), (.int .u8 0), (.int .u8 0), (.int .u8 0), (.int .u8 0), .nilFunc, (.pointer none), (.int .i32 0), (.int .i32 0)]), 11, 48) := by kernel_rfl
theorem inf161 : (Try.prog.info? 161).map (fun i => (i.zero, i.size, i.bytes)) = some (some (.pointer none), 1, 8) := by kernel_rfl
set_option maxHeartbeats 4000000 in
theorem inf_ok : ∀ t z s b, inf t = some (z, s, b) → ∃ i, Try.prog.info? t = some i ∧ i.zero = some z ∧ i.size = s ∧ i.bytes = b := by
  intro t z s b h
  unfold inf at h
  split at h
  · cases h; exact inf_mk inf0
  · cases h; exact inf_mk inf1
  · cases h; exact inf_mk inf2
  · cases h; exact inf_mk inf3
  · cases h; exact inf_mk inf4
  · cases h; exact inf_mk inf5
  · cases h; exact inf_mk inf6
  · cases h; exact inf_mk inf7
  · cases h; exact inf_mk inf8
  · cases h; exact inf_mk inf9
  · cases h; exact inf_mk inf10
  · cases h; exact inf_mk inf11
  · cases h; exact inf_mk inf12
  · cases h; exact inf_mk inf13
  · cases h; exact inf_mk inf14
  · cases h; exact inf_mk inf15
  · cases h; exact inf_mk inf16
  · cases h; exact inf_mk inf17
  · cases h; exact inf_mk inf18
  · cases h; exact inf_mk inf19
  · cases h; exact inf_mk inf20
  · cases h; exact inf_mk inf21
  · cases h; exact inf_mk inf22
  · cases h; exact inf_mk inf23
  · cases h; exact inf_mk inf24
  · cases h; exact inf_mk inf25
  · cases h; exact inf_mk inf26
  · cases h; exact inf_mk inf27
  · cases h; exact inf_mk inf28
  · cases h; exact inf_mk inf29
  · cases h; exact inf_mk inf30
  · cases h; exact inf_mk inf31
  · cases h; exact inf_mk inf32
  · cases h; exact inf_mk inf33
  · cases h; exact inf_mk inf34
  · cases h; exact inf_mk inf35
  · cases h; exact inf_mk inf36
  · cases h; exact inf_mk inf37
  · cases h; exact inf_mk inf38
  · cases h; exact inf_mk inf39
  · cases h; exact inf_mk inf40
  · cases h; exact inf_mk inf41
  · cases h; exact inf_mk inf42
  · cases h; exact inf_mk inf43
  · cases h; exact inf_mk inf44
  · cases h; exact inf_mk inf45
  · cases h; exact inf_mk inf46
  · cases h; exact inf_mk inf47
  · cases h; exact inf_mk inf48
  · cases h; exact inf_mk inf49
  · cases h; exact inf_mk inf50
  · cases h; exact inf_mk inf51
  · cases h; exact inf_mk inf52
  · cases h; exact inf_mk inf53
  · cases h; exact inf_mk inf54
  · cases h; exact inf_mk inf55
  · cases h; exact inf_mk inf56
  · cases h; exact inf_mk inf57
  · cases h; exact inf_mk inf58
  · cases h; exact inf_mk inf59
  · cases h; exact inf_mk inf60
  · cases h; exact inf_mk inf61
  · cases h; exact inf_mk inf62
  · cases h; exact inf_mk inf63
  · cases h; exact inf_mk inf64
  · cases h; exact inf_mk inf65
  · cases h; exact inf_mk inf66
  · cases h; exact inf_mk inf67
  · cases h; exact inf_mk inf68
  · cases h; exact inf_mk inf69
  · cases h; exact inf_mk inf70
  · cases h; exact inf_mk inf71
  · cases h; exact inf_mk inf72
  · cases h; exact inf_mk inf73
  · cases h; exact inf_mk inf74
  · cases h; exact inf_mk inf75
  · cases h; exact inf_mk inf76
  · cases h; exact inf_mk inf77
  · cases h; exact inf_mk inf78
  · cases h; exact inf_mk inf79
  · cases h; exact inf_mk inf80
  · cases h; exact inf_mk inf81
  · cases h; exact inf_mk inf82
  · cases h; exact inf_mk inf83
  · cases h; exact inf_mk inf84
  · cases h; exact inf_mk inf85
  · cases h; exact inf_mk inf86
  · cases h; exact inf_mk inf87
  · cases h; exact inf_mk inf88
  · cases h; exact inf_mk inf89
  · cases h; exact inf_mk inf90
  · cases h; exact inf_mk inf91
  · cases h; exact inf_mk inf92
  · cases h; exact inf_mk inf93
  · cases h; exact inf_mk inf94
  · cases h; exact inf_mk inf95
  · cases h; exact inf_mk inf96
  · cases h; exact inf_mk inf97
  · cases h; exact inf_mk inf98
  · cases h; exact inf_mk inf99
  · cases h; exact inf_mk inf100
  · cases h; exact inf_mk inf101
  · cases h; exact inf_mk inf102
  · cases h; exact inf_mk inf103
  · cases h; exact inf_mk inf104
  · cases h; exact inf_mk inf105
  · cases h; exact inf_mk inf106
  · cases h; exact inf_mk inf107
  · cases h; exact inf_mk inf108
  · cases h; exact inf_mk inf109
  · cases h; exact inf_mk inf110
  · cases h; exact inf_mk inf111
  · cases h; exact inf_mk inf112
  · cases h; exact inf_mk inf113
  · cases h; exact inf_mk inf114
  · cases h; exact inf_mk inf115
  · cases h; exact inf_mk inf116
  · cases h; exact inf_mk inf117
  · cases h; exact inf_mk inf118
  · cases h; exact inf_mk inf119
  · cases h; exact inf_mk inf120
  · cases h; exact inf_mk inf121
  · cases h; exact inf_mk inf122
  · cases h; exact inf_mk inf123
  · cases h; exact inf_mk inf124
  · cases h; exact inf_mk inf125
  · cases h; exact inf_mk inf126
  · cases h; exact inf_mk inf127
  · cases h; exact inf_mk inf128
  · cases h; exact inf_mk inf129
  · cases h; exact inf_mk inf130
  · cases h; exact inf_mk inf131
  · cases h; exact inf_mk inf132
  · cases h; exact inf_mk inf133
  · cases h; exact inf_mk inf134
  · cases h; exact inf_mk inf135
  · cases h; exact inf_mk inf136
  · cases h; exact inf_mk inf137
  · cases h; exact inf_mk inf138
  · cases h; exact inf_mk inf139
  · cases h; exact inf_mk inf140
  · cases h; exact inf_mk inf141
  · cases h; exact inf_mk inf142
  · cases h; exact inf_mk inf143
  · cases h; exact inf_mk inf144
  · cases h; exact inf_mk inf145
  · cases h; exact inf_mk inf146
  · cases h; exact inf_mk inf147
  · cases h; exact inf_mk inf148
  · cases h; exact inf_mk inf149
  · cases h; exact inf_mk inf150
  · cases h; exact inf_mk inf151
  · cases h; exact inf_mk inf152
  · cases h; exact inf_mk inf153
  · cases h; exact inf_mk inf154
  · cases h; exact inf_mk inf155
  · cases h; exact inf_mk inf156
  · cases h; exact inf_mk inf157
  · cases h; exact inf_mk inf158
  · cases h; exact inf_mk inf159
  · cases h; exact inf_mk inf160
  · cases h; exact inf_mk inf161
  · cases h
theorem mixed : Try.prog.follows .mixedOrders = true := by kernel_rfl
noncomputable instance tab : Tab Try.prog := { und := und, und_ok := und_ok, mixed := mixed, inf := inf, inf_ok := inf_ok }
theorem callOk {f : FuncId} {fn : Func} (h : Try.prog.funcs[f]? = some fn) (hn : (fn.name == "runtime.NumGoroutine") = false) (hb : fn.body.isNone = false) : CallOk Try.prog f := fun args w => by
  unfold callFunc
  rw [Sem.run_bind, run_program]
  simp only [Result.andThen_ok, h]
  rw [if_neg (by rw [hn]; simp), if_neg (by rw [hb]; simp)]
  rfl
noncomputable def c2 : Code := Try.f2.body.getD .skip
theorem fn2 : FnOk Try.prog 2 1 [] c2 := ⟨⟨Try.f2, Try.func2, rfl, Try.ntmps2, rfl, callOk Try.func2 (by kernel_rfl) rfl⟩⟩
noncomputable def c3 : Code := Try.f3.body.getD .skip
theorem fn3 : FnOk Try.prog 3 60 [ResultVar.tmp 6] c3 := ⟨⟨Try.f3, Try.func3, rfl, Try.ntmps3, rfl, callOk Try.func3 (by kernel_rfl) rfl⟩⟩
noncomputable def c4 : Code := Try.f4.body.getD .skip
theorem fn4 : FnOk Try.prog 4 101 [ResultVar.tmp 6] c4 := ⟨⟨Try.f4, Try.func4, rfl, Try.ntmps4, rfl, callOk Try.func4 (by kernel_rfl) rfl⟩⟩
noncomputable def c5 : Code := Try.f5.body.getD .skip
theorem fn5 : FnOk Try.prog 5 143 [ResultVar.tmp 6] c5 := ⟨⟨Try.f5, Try.func5, rfl, Try.ntmps5, rfl, callOk Try.func5 (by kernel_rfl) rfl⟩⟩
noncomputable def c6 : Code := Try.f6.body.getD .skip
theorem fn6 : FnOk Try.prog 6 38 [ResultVar.tmp 0] c6 := ⟨⟨Try.f6, Try.func6, rfl, Try.ntmps6, rfl, callOk Try.func6 (by kernel_rfl) rfl⟩⟩
noncomputable def c7 : Code := Try.f7.body.getD .skip
theorem fn7 : FnOk Try.prog 7 50 [ResultVar.tmp 6] c7 := ⟨⟨Try.f7, Try.func7, rfl, Try.ntmps7, rfl, callOk Try.func7 (by kernel_rfl) rfl⟩⟩
noncomputable def c8 : Code := Try.f8.body.getD .skip
theorem fn8 : FnOk Try.prog 8 38 [ResultVar.tmp 8, ResultVar.tmp 9, ResultVar.tmp 10] c8 := ⟨⟨Try.f8, Try.func8, rfl, Try.ntmps8, rfl, callOk Try.func8 (by kernel_rfl) rfl⟩⟩
noncomputable def c9 : Code := Try.f9.body.getD .skip
theorem fn9 : FnOk Try.prog 9 79 [ResultVar.tmp 8, ResultVar.tmp 9, ResultVar.tmp 10] c9 := ⟨⟨Try.f9, Try.func9, rfl, Try.ntmps9, rfl, callOk Try.func9 (by kernel_rfl) rfl⟩⟩
noncomputable def c10 : Code := Try.f10.body.getD .skip
theorem fn10 : FnOk Try.prog 10 36 [ResultVar.tmp 2] c10 := ⟨⟨Try.f10, Try.func10, rfl, Try.ntmps10, rfl, callOk Try.func10 (by kernel_rfl) rfl⟩⟩
noncomputable def c11 : Code := Try.f11.body.getD .skip
theorem fn11 : FnOk Try.prog 11 26 [ResultVar.tmp 2] c11 := ⟨⟨Try.f11, Try.func11, rfl, Try.ntmps11, rfl, callOk Try.func11 (by kernel_rfl) rfl⟩⟩
noncomputable def c12 : Code := Try.f12.body.getD .skip
theorem fn12 : FnOk Try.prog 12 26 [ResultVar.tmp 4] c12 := ⟨⟨Try.f12, Try.func12, rfl, Try.ntmps12, rfl, callOk Try.func12 (by kernel_rfl) rfl⟩⟩
noncomputable def c13 : Code := Try.f13.body.getD .skip
theorem fn13 : FnOk Try.prog 13 62 [ResultVar.tmp 4, ResultVar.tmp 5] c13 := ⟨⟨Try.f13, Try.func13, rfl, Try.ntmps13, rfl, callOk Try.func13 (by kernel_rfl) rfl⟩⟩
noncomputable def c14 : Code := Try.f14.body.getD .skip
theorem fn14 : FnOk Try.prog 14 14 [ResultVar.tmp 6, ResultVar.tmp 7] c14 := ⟨⟨Try.f14, Try.func14, rfl, Try.ntmps14, rfl, callOk Try.func14 (by kernel_rfl) rfl⟩⟩
noncomputable def c15 : Code := Try.f15.body.getD .skip
theorem fn15 : FnOk Try.prog 15 36 [ResultVar.tmp 8] c15 := ⟨⟨Try.f15, Try.func15, rfl, Try.ntmps15, rfl, callOk Try.func15 (by kernel_rfl) rfl⟩⟩
noncomputable def c16 : Code := Try.f16.body.getD .skip
theorem fn16 : FnOk Try.prog 16 120 [ResultVar.cell 6 53, ResultVar.tmp 7] c16 := ⟨⟨Try.f16, Try.func16, rfl, Try.ntmps16, rfl, callOk Try.func16 (by kernel_rfl) rfl⟩⟩
noncomputable def c17 : Code := Try.f17.body.getD .skip
theorem fn17 : FnOk Try.prog 17 32 [ResultVar.tmp 4, ResultVar.tmp 5, ResultVar.tmp 6] c17 := ⟨⟨Try.f17, Try.func17, rfl, Try.ntmps17, rfl, callOk Try.func17 (by kernel_rfl) rfl⟩⟩
noncomputable def c18 : Code := Try.f18.body.getD .skip
theorem fn18 : FnOk Try.prog 18 78 [ResultVar.tmp 8] c18 := ⟨⟨Try.f18, Try.func18, rfl, Try.ntmps18, rfl, callOk Try.func18 (by kernel_rfl) rfl⟩⟩
noncomputable def c19 : Code := Try.f19.body.getD .skip
theorem fn19 : FnOk Try.prog 19 91 [ResultVar.tmp 4, ResultVar.tmp 5] c19 := ⟨⟨Try.f19, Try.func19, rfl, Try.ntmps19, rfl, callOk Try.func19 (by kernel_rfl) rfl⟩⟩
noncomputable def c20 : Code := Try.f20.body.getD .skip
theorem fn20 : FnOk Try.prog 20 56 [ResultVar.tmp 8] c20 := ⟨⟨Try.f20, Try.func20, rfl, Try.ntmps20, rfl, callOk Try.func20 (by kernel_rfl) rfl⟩⟩
noncomputable def c21 : Code := Try.f21.body.getD .skip
theorem fn21 : FnOk Try.prog 21 50 [ResultVar.tmp 4] c21 := ⟨⟨Try.f21, Try.func21, rfl, Try.ntmps21, rfl, callOk Try.func21 (by kernel_rfl) rfl⟩⟩
noncomputable def c22 : Code := Try.f22.body.getD .skip
theorem fn22 : FnOk Try.prog 22 8 [ResultVar.tmp 2] c22 := ⟨⟨Try.f22, Try.func22, rfl, Try.ntmps22, rfl, callOk Try.func22 (by kernel_rfl) rfl⟩⟩
noncomputable def c23 : Code := Try.f23.body.getD .skip
theorem fn23 : FnOk Try.prog 23 22 [ResultVar.tmp 2] c23 := ⟨⟨Try.f23, Try.func23, rfl, Try.ntmps23, rfl, callOk Try.func23 (by kernel_rfl) rfl⟩⟩
noncomputable def c24 : Code := Try.f24.body.getD .skip
theorem fn24 : FnOk Try.prog 24 19 [ResultVar.tmp 4] c24 := ⟨⟨Try.f24, Try.func24, rfl, Try.ntmps24, rfl, callOk Try.func24 (by kernel_rfl) rfl⟩⟩
noncomputable def c25 : Code := Try.f25.body.getD .skip
theorem fn25 : FnOk Try.prog 25 12 [ResultVar.tmp 4] c25 := ⟨⟨Try.f25, Try.func25, rfl, Try.ntmps25, rfl, callOk Try.func25 (by kernel_rfl) rfl⟩⟩
noncomputable def c26 : Code := Try.f26.body.getD .skip
theorem fn26 : FnOk Try.prog 26 17 [ResultVar.tmp 4] c26 := ⟨⟨Try.f26, Try.func26, rfl, Try.ntmps26, rfl, callOk Try.func26 (by kernel_rfl) rfl⟩⟩
noncomputable def c27 : Code := Try.f27.body.getD .skip
theorem fn27 : FnOk Try.prog 27 36 [ResultVar.cell 4 46, ResultVar.tmp 5] c27 := ⟨⟨Try.f27, Try.func27, rfl, Try.ntmps27, rfl, callOk Try.func27 (by kernel_rfl) rfl⟩⟩
noncomputable def c28 : Code := Try.f28.body.getD .skip
theorem fn28 : FnOk Try.prog 28 84 [ResultVar.tmp 8, ResultVar.tmp 9] c28 := ⟨⟨Try.f28, Try.func28, rfl, Try.ntmps28, rfl, callOk Try.func28 (by kernel_rfl) rfl⟩⟩
noncomputable def c29 : Code := Try.f29.body.getD .skip
theorem fn29 : FnOk Try.prog 29 12 [ResultVar.cell 4 46, ResultVar.tmp 5] c29 := ⟨⟨Try.f29, Try.func29, rfl, Try.ntmps29, rfl, callOk Try.func29 (by kernel_rfl) rfl⟩⟩
noncomputable def c30 : Code := Try.f30.body.getD .skip
theorem fn30 : FnOk Try.prog 30 9 [ResultVar.tmp 2] c30 := ⟨⟨Try.f30, Try.func30, rfl, Try.ntmps30, rfl, callOk Try.func30 (by kernel_rfl) rfl⟩⟩
noncomputable def c31 : Code := Try.f31.body.getD .skip
theorem fn31 : FnOk Try.prog 31 9 [ResultVar.tmp 4] c31 := ⟨⟨Try.f31, Try.func31, rfl, Try.ntmps31, rfl, callOk Try.func31 (by kernel_rfl) rfl⟩⟩
noncomputable def c32 : Code := Try.f32.body.getD .skip
theorem fn32 : FnOk Try.prog 32 7 [ResultVar.tmp 2] c32 := ⟨⟨Try.f32, Try.func32, rfl, Try.ntmps32, rfl, callOk Try.func32 (by kernel_rfl) rfl⟩⟩
noncomputable def c33 : Code := Try.f33.body.getD .skip
theorem fn33 : FnOk Try.prog 33 10 [ResultVar.tmp 2, ResultVar.tmp 3] c33 := ⟨⟨Try.f33, Try.func33, rfl, Try.ntmps33, rfl, callOk Try.func33 (by kernel_rfl) rfl⟩⟩
noncomputable def c34 : Code := Try.f34.body.getD .skip
theorem fn34 : FnOk Try.prog 34 8 [ResultVar.tmp 3] c34 := ⟨⟨Try.f34, Try.func34, rfl, Try.ntmps34, rfl, callOk Try.func34 (by kernel_rfl) rfl⟩⟩
noncomputable def c35 : Code := Try.f35.body.getD .skip
theorem fn35 : FnOk Try.prog 35 104 [ResultVar.tmp 8] c35 := ⟨⟨Try.f35, Try.func35, rfl, Try.ntmps35, rfl, callOk Try.func35 (by kernel_rfl) rfl⟩⟩
noncomputable def c36 : Code := Try.f36.body.getD .skip
theorem fn36 : FnOk Try.prog 36 11 [] c36 := ⟨⟨Try.f36, Try.func36, rfl, Try.ntmps36, rfl, callOk Try.func36 (by kernel_rfl) rfl⟩⟩
noncomputable def c37 : Code := Try.f37.body.getD .skip
theorem fn37 : FnOk Try.prog 37 61 [ResultVar.tmp 2] c37 := ⟨⟨Try.f37, Try.func37, rfl, Try.ntmps37, rfl, callOk Try.func37 (by kernel_rfl) rfl⟩⟩
noncomputable def c38 : Code := Try.f38.body.getD .skip
theorem fn38 : FnOk Try.prog 38 28 [ResultVar.tmp 4] c38 := ⟨⟨Try.f38, Try.func38, rfl, Try.ntmps38, rfl, callOk Try.func38 (by kernel_rfl) rfl⟩⟩
noncomputable def c39 : Code := Try.f39.body.getD .skip
theorem fn39 : FnOk Try.prog 39 56 [ResultVar.tmp 4] c39 := ⟨⟨Try.f39, Try.func39, rfl, Try.ntmps39, rfl, callOk Try.func39 (by kernel_rfl) rfl⟩⟩
noncomputable def c40 : Code := Try.f40.body.getD .skip
theorem fn40 : FnOk Try.prog 40 90 [ResultVar.tmp 8, ResultVar.tmp 9] c40 := ⟨⟨Try.f40, Try.func40, rfl, Try.ntmps40, rfl, callOk Try.func40 (by kernel_rfl) rfl⟩⟩
noncomputable def c41 : Code := Try.f41.body.getD .skip
theorem fn41 : FnOk Try.prog 41 8 [ResultVar.tmp 2] c41 := ⟨⟨Try.f41, Try.func41, rfl, Try.ntmps41, rfl, callOk Try.func41 (by kernel_rfl) rfl⟩⟩
noncomputable def c42 : Code := Try.f42.body.getD .skip
theorem fn42 : FnOk Try.prog 42 36 [ResultVar.tmp 4] c42 := ⟨⟨Try.f42, Try.func42, rfl, Try.ntmps42, rfl, callOk Try.func42 (by kernel_rfl) rfl⟩⟩
noncomputable def c43 : Code := Try.f43.body.getD .skip
theorem fn43 : FnOk Try.prog 43 31 [ResultVar.tmp 4] c43 := ⟨⟨Try.f43, Try.func43, rfl, Try.ntmps43, rfl, callOk Try.func43 (by kernel_rfl) rfl⟩⟩
noncomputable def c44 : Code := Try.f44.body.getD .skip
theorem fn44 : FnOk Try.prog 44 35 [ResultVar.cell 4 46, ResultVar.tmp 5] c44 := ⟨⟨Try.f44, Try.func44, rfl, Try.ntmps44, rfl, callOk Try.func44 (by kernel_rfl) rfl⟩⟩
noncomputable def c45 : Code := Try.f45.body.getD .skip
theorem fn45 : FnOk Try.prog 45 9 [ResultVar.tmp 4] c45 := ⟨⟨Try.f45, Try.func45, rfl, Try.ntmps45, rfl, callOk Try.func45 (by kernel_rfl) rfl⟩⟩
noncomputable def c46 : Code := Try.f46.body.getD .skip
theorem fn46 : FnOk Try.prog 46 6 [ResultVar.tmp 2] c46 := ⟨⟨Try.f46, Try.func46, rfl, Try.ntmps46, rfl, callOk Try.func46 (by kernel_rfl) rfl⟩⟩
noncomputable def c47 : Code := Try.f47.body.getD .skip
theorem fn47 : FnOk Try.prog 47 16 [ResultVar.tmp 2] c47 := ⟨⟨Try.f47, Try.func47, rfl, Try.ntmps47, rfl, callOk Try.func47 (by kernel_rfl) rfl⟩⟩
noncomputable def c48 : Code := Try.f48.body.getD .skip
theorem fn48 : FnOk Try.prog 48 9 [] c48 := ⟨⟨Try.f48, Try.func48, rfl, Try.ntmps48, rfl, callOk Try.func48 (by kernel_rfl) rfl⟩⟩
noncomputable def c49 : Code := Try.f49.body.getD .skip
theorem fn49 : FnOk Try.prog 49 16 [ResultVar.tmp 5] c49 := ⟨⟨Try.f49, Try.func49, rfl, Try.ntmps49, rfl, callOk Try.func49 (by kernel_rfl) rfl⟩⟩
noncomputable def c50 : Code := Try.f50.body.getD .skip
theorem fn50 : FnOk Try.prog 50 20 [ResultVar.tmp 4] c50 := ⟨⟨Try.f50, Try.func50, rfl, Try.ntmps50, rfl, callOk Try.func50 (by kernel_rfl) rfl⟩⟩
noncomputable def c51 : Code := Try.f51.body.getD .skip
theorem fn51 : FnOk Try.prog 51 8 [ResultVar.tmp 4] c51 := ⟨⟨Try.f51, Try.func51, rfl, Try.ntmps51, rfl, callOk Try.func51 (by kernel_rfl) rfl⟩⟩
noncomputable def c52 : Code := Try.f52.body.getD .skip
theorem fn52 : FnOk Try.prog 52 8 [ResultVar.tmp 3] c52 := ⟨⟨Try.f52, Try.func52, rfl, Try.ntmps52, rfl, callOk Try.func52 (by kernel_rfl) rfl⟩⟩
noncomputable def c53 : Code := Try.f53.body.getD .skip
theorem fn53 : FnOk Try.prog 53 47 [ResultVar.cell 2 46, ResultVar.tmp 3] c53 := ⟨⟨Try.f53, Try.func53, rfl, Try.ntmps53, rfl, callOk Try.func53 (by kernel_rfl) rfl⟩⟩
noncomputable def c54 : Code := Try.f54.body.getD .skip
theorem fn54 : FnOk Try.prog 54 19 [ResultVar.tmp 4] c54 := ⟨⟨Try.f54, Try.func54, rfl, Try.ntmps54, rfl, callOk Try.func54 (by kernel_rfl) rfl⟩⟩
noncomputable def c55 : Code := Try.f55.body.getD .skip
theorem fn55 : FnOk Try.prog 55 16 [ResultVar.tmp 4] c55 := ⟨⟨Try.f55, Try.func55, rfl, Try.ntmps55, rfl, callOk Try.func55 (by kernel_rfl) rfl⟩⟩
noncomputable def c56 : Code := Try.f56.body.getD .skip
theorem fn56 : FnOk Try.prog 56 56 [ResultVar.cell 6 46, ResultVar.tmp 7] c56 := ⟨⟨Try.f56, Try.func56, rfl, Try.ntmps56, rfl, callOk Try.func56 (by kernel_rfl) rfl⟩⟩
noncomputable def c57 : Code := Try.f57.body.getD .skip
theorem fn57 : FnOk Try.prog 57 38 [] c57 := ⟨⟨Try.f57, Try.func57, rfl, Try.ntmps57, rfl, callOk Try.func57 (by kernel_rfl) rfl⟩⟩
noncomputable def c58 : Code := Try.f58.body.getD .skip
theorem fn58 : FnOk Try.prog 58 12 [ResultVar.tmp 4] c58 := ⟨⟨Try.f58, Try.func58, rfl, Try.ntmps58, rfl, callOk Try.func58 (by kernel_rfl) rfl⟩⟩
noncomputable def c59 : Code := Try.f59.body.getD .skip
theorem fn59 : FnOk Try.prog 59 42 [ResultVar.tmp 4] c59 := ⟨⟨Try.f59, Try.func59, rfl, Try.ntmps59, rfl, callOk Try.func59 (by kernel_rfl) rfl⟩⟩
noncomputable def c60 : Code := Try.f60.body.getD .skip
theorem fn60 : FnOk Try.prog 60 12 [ResultVar.tmp 3] c60 := ⟨⟨Try.f60, Try.func60, rfl, Try.ntmps60, rfl, callOk Try.func60 (by kernel_rfl) rfl⟩⟩
noncomputable def c61 : Code := Try.f61.body.getD .skip
theorem fn61 : FnOk Try.prog 61 134 [] c61 := ⟨⟨Try.f61, Try.func61, rfl, Try.ntmps61, rfl, callOk Try.func61 (by kernel_rfl) rfl⟩⟩
noncomputable def c62 : Code := Try.f62.body.getD .skip
theorem fn62 : FnOk Try.prog 62 8 [ResultVar.tmp 2] c62 := ⟨⟨Try.f62, Try.func62, rfl, Try.ntmps62, rfl, callOk Try.func62 (by kernel_rfl) rfl⟩⟩
noncomputable def c63 : Code := Try.f63.body.getD .skip
theorem fn63 : FnOk Try.prog 63 27 [ResultVar.cell 4 46] c63 := ⟨⟨Try.f63, Try.func63, rfl, Try.ntmps63, rfl, callOk Try.func63 (by kernel_rfl) rfl⟩⟩
noncomputable def c64 : Code := Try.f64.body.getD .skip
theorem fn64 : FnOk Try.prog 64 18 [ResultVar.tmp 2] c64 := ⟨⟨Try.f64, Try.func64, rfl, Try.ntmps64, rfl, callOk Try.func64 (by kernel_rfl) rfl⟩⟩
noncomputable def c65 : Code := Try.f65.body.getD .skip
theorem fn65 : FnOk Try.prog 65 20 [ResultVar.tmp 4] c65 := ⟨⟨Try.f65, Try.func65, rfl, Try.ntmps65, rfl, callOk Try.func65 (by kernel_rfl) rfl⟩⟩
noncomputable def c66 : Code := Try.f66.body.getD .skip
theorem fn66 : FnOk Try.prog 66 35 [ResultVar.cell 4 46, ResultVar.tmp 5] c66 := ⟨⟨Try.f66, Try.func66, rfl, Try.ntmps66, rfl, callOk Try.func66 (by kernel_rfl) rfl⟩⟩
noncomputable def c67 : Code := Try.f67.body.getD .skip
theorem fn67 : FnOk Try.prog 67 24 [ResultVar.tmp 4] c67 := ⟨⟨Try.f67, Try.func67, rfl, Try.ntmps67, rfl, callOk Try.func67 (by kernel_rfl) rfl⟩⟩
noncomputable def c68 : Code := Try.f68.body.getD .skip
theorem fn68 : FnOk Try.prog 68 19 [ResultVar.tmp 4] c68 := ⟨⟨Try.f68, Try.func68, rfl, Try.ntmps68, rfl, callOk Try.func68 (by kernel_rfl) rfl⟩⟩
noncomputable def c69 : Code := Try.f69.body.getD .skip
theorem fn69 : FnOk Try.prog 69 63 [] c69 := ⟨⟨Try.f69, Try.func69, rfl, Try.ntmps69, rfl, callOk Try.func69 (by kernel_rfl) rfl⟩⟩
noncomputable def c70 : Code := Try.f70.body.getD .skip
theorem fn70 : FnOk Try.prog 70 6 [ResultVar.tmp 2] c70 := ⟨⟨Try.f70, Try.func70, rfl, Try.ntmps70, rfl, callOk Try.func70 (by kernel_rfl) rfl⟩⟩
noncomputable def c71 : Code := Try.f71.body.getD .skip
theorem fn71 : FnOk Try.prog 71 36 [ResultVar.tmp 4] c71 := ⟨⟨Try.f71, Try.func71, rfl, Try.ntmps71, rfl, callOk Try.func71 (by kernel_rfl) rfl⟩⟩
noncomputable def c72 : Code := Try.f72.body.getD .skip
theorem fn72 : FnOk Try.prog 72 95 [ResultVar.tmp 6] c72 := ⟨⟨Try.f72, Try.func72, rfl, Try.ntmps72, rfl, callOk Try.func72 (by kernel_rfl) rfl⟩⟩
noncomputable def c73 : Code := Try.f73.body.getD .skip
theorem fn73 : FnOk Try.prog 73 26 [ResultVar.tmp 4] c73 := ⟨⟨Try.f73, Try.func73, rfl, Try.ntmps73, rfl, callOk Try.func73 (by kernel_rfl) rfl⟩⟩
noncomputable def c74 : Code := Try.f74.body.getD .skip
theorem fn74 : FnOk Try.prog 74 15 [ResultVar.tmp 4] c74 := ⟨⟨Try.f74, Try.func74, rfl, Try.ntmps74, rfl, callOk Try.func74 (by kernel_rfl) rfl⟩⟩
noncomputable def c75 : Code := Try.f75.body.getD .skip
theorem fn75 : FnOk Try.prog 75 19 [ResultVar.tmp 4] c75 := ⟨⟨Try.f75, Try.func75, rfl, Try.ntmps75, rfl, callOk Try.func75 (by kernel_rfl) rfl⟩⟩
noncomputable def c76 : Code := Try.f76.body.getD .skip
theorem fn76 : FnOk Try.prog 76 49 [] c76 := ⟨⟨Try.f76, Try.func76, rfl, Try.ntmps76, rfl, callOk Try.func76 (by kernel_rfl) rfl⟩⟩
noncomputable def c77 : Code := Try.f77.body.getD .skip
theorem fn77 : FnOk Try.prog 77 56 [] c77 := ⟨⟨Try.f77, Try.func77, rfl, Try.ntmps77, rfl, callOk Try.func77 (by kernel_rfl) rfl⟩⟩
noncomputable def c78 : Code := Try.f78.body.getD .skip
theorem fn78 : FnOk Try.prog 78 65 [] c78 := ⟨⟨Try.f78, Try.func78, rfl, Try.ntmps78, rfl, callOk Try.func78 (by kernel_rfl) rfl⟩⟩
noncomputable def c79 : Code := Try.f79.body.getD .skip
theorem fn79 : FnOk Try.prog 79 57 [ResultVar.tmp 6, ResultVar.tmp 7] c79 := ⟨⟨Try.f79, Try.func79, rfl, Try.ntmps79, rfl, callOk Try.func79 (by kernel_rfl) rfl⟩⟩
noncomputable def c80 : Code := Try.f80.body.getD .skip
theorem fn80 : FnOk Try.prog 80 32 [] c80 := ⟨⟨Try.f80, Try.func80, rfl, Try.ntmps80, rfl, callOk Try.func80 (by kernel_rfl) rfl⟩⟩
noncomputable def c81 : Code := Try.f81.body.getD .skip
theorem fn81 : FnOk Try.prog 81 133 [ResultVar.tmp 6] c81 := ⟨⟨Try.f81, Try.func81, rfl, Try.ntmps81, rfl, callOk Try.func81 (by kernel_rfl) rfl⟩⟩
noncomputable def c82 : Code := Try.f82.body.getD .skip
theorem fn82 : FnOk Try.prog 82 17 [ResultVar.tmp 4] c82 := ⟨⟨Try.f82, Try.func82, rfl, Try.ntmps82, rfl, callOk Try.func82 (by kernel_rfl) rfl⟩⟩
noncomputable def c83 : Code := Try.f83.body.getD .skip
theorem fn83 : FnOk Try.prog 83 84 [ResultVar.tmp 8] c83 := ⟨⟨Try.f83, Try.func83, rfl, Try.ntmps83, rfl, callOk Try.func83 (by kernel_rfl) rfl⟩⟩
noncomputable def c84 : Code := Try.f84.body.getD .skip
theorem fn84 : FnOk Try.prog 84 168 [ResultVar.tmp 8, ResultVar.tmp 9] c84 := ⟨⟨Try.f84, Try.func84, rfl, Try.ntmps84, rfl, callOk Try.func84 (by kernel_rfl) rfl⟩⟩
noncomputable def c85 : Code := Try.f85.body.getD .skip
theorem fn85 : FnOk Try.prog 85 19 [ResultVar.tmp 2] c85 := ⟨⟨Try.f85, Try.func85, rfl, Try.ntmps85, rfl, callOk Try.func85 (by kernel_rfl) rfl⟩⟩
noncomputable def c86 : Code := Try.f86.body.getD .skip
theorem fn86 : FnOk Try.prog 86 25 [ResultVar.tmp 2] c86 := ⟨⟨Try.f86, Try.func86, rfl, Try.ntmps86, rfl, callOk Try.func86 (by kernel_rfl) rfl⟩⟩
noncomputable def c87 : Code := Try.f87.body.getD .skip
theorem fn87 : FnOk Try.prog 87 53 [] c87 := ⟨⟨Try.f87, Try.func87, rfl, Try.ntmps87, rfl, callOk Try.func87 (by kernel_rfl) rfl⟩⟩
noncomputable def c88 : Code := Try.f88.body.getD .skip
theorem fn88 : FnOk Try.prog 88 220 [] c88 := ⟨⟨Try.f88, Try.func88, rfl, Try.ntmps88, rfl, callOk Try.func88 (by kernel_rfl) rfl⟩⟩
noncomputable def c89 : Code := Try.f89.body.getD .skip
theorem fn89 : FnOk Try.prog 89 20 [ResultVar.tmp 4] c89 := ⟨⟨Try.f89, Try.func89, rfl, Try.ntmps89, rfl, callOk Try.func89 (by kernel_rfl) rfl⟩⟩
noncomputable def c91 : Code := Try.f91.body.getD .skip
theorem fn91 : FnOk Try.prog 91 10 [] c91 := ⟨⟨Try.f91, Try.func91, rfl, Try.ntmps91, rfl, callOk Try.func91 (by kernel_rfl) rfl⟩⟩
noncomputable def c92 : Code := Try.f92.body.getD .skip
theorem fn92 : FnOk Try.prog 92 76 [] c92 := ⟨⟨Try.f92, Try.func92, rfl, Try.ntmps92, rfl, callOk Try.func92 (by kernel_rfl) rfl⟩⟩
noncomputable def c93 : Code := Try.f93.body.getD .skip
theorem fn93 : FnOk Try.prog 93 7 [ResultVar.tmp 2] c93 := ⟨⟨Try.f93, Try.func93, rfl, Try.ntmps93, rfl, callOk Try.func93 (by kernel_rfl) rfl⟩⟩
noncomputable def c94 : Code := Try.f94.body.getD .skip
theorem fn94 : FnOk Try.prog 94 33 [ResultVar.tmp 2] c94 := ⟨⟨Try.f94, Try.func94, rfl, Try.ntmps94, rfl, callOk Try.func94 (by kernel_rfl) rfl⟩⟩
noncomputable def c95 : Code := Try.f95.body.getD .skip
theorem fn95 : FnOk Try.prog 95 15 [ResultVar.tmp 6] c95 := ⟨⟨Try.f95, Try.func95, rfl, Try.ntmps95, rfl, callOk Try.func95 (by kernel_rfl) rfl⟩⟩
noncomputable def c96 : Code := Try.f96.body.getD .skip
theorem fn96 : FnOk Try.prog 96 36 [ResultVar.tmp 10] c96 := ⟨⟨Try.f96, Try.func96, rfl, Try.ntmps96, rfl, callOk Try.func96 (by kernel_rfl) rfl⟩⟩
noncomputable def c97 : Code := Try.f97.body.getD .skip
theorem fn97 : FnOk Try.prog 97 6 [ResultVar.tmp 2] c97 := ⟨⟨Try.f97, Try.func97, rfl, Try.ntmps97, rfl, callOk Try.func97 (by kernel_rfl) rfl⟩⟩
noncomputable def c98 : Code := Try.f98.body.getD .skip
theorem fn98 : FnOk Try.prog 98 58 [] c98 := ⟨⟨Try.f98, Try.func98, rfl, Try.ntmps98, rfl, callOk Try.func98 (by kernel_rfl) rfl⟩⟩
noncomputable def c99 : Code := Try.f99.body.getD .skip
theorem fn99 : FnOk Try.prog 99 14 [] c99 := ⟨⟨Try.f99, Try.func99, rfl, Try.ntmps99, rfl, callOk Try.func99 (by kernel_rfl) rfl⟩⟩
noncomputable def c100 : Code := Try.f100.body.getD .skip
theorem fn100 : FnOk Try.prog 100 28 [ResultVar.tmp 8, ResultVar.tmp 9] c100 := ⟨⟨Try.f100, Try.func100, rfl, Try.ntmps100, rfl, callOk Try.func100 (by kernel_rfl) rfl⟩⟩
noncomputable def c101 : Code := Try.f101.body.getD .skip
theorem fn101 : FnOk Try.prog 101 38 [] c101 := ⟨⟨Try.f101, Try.func101, rfl, Try.ntmps101, rfl, callOk Try.func101 (by kernel_rfl) rfl⟩⟩
noncomputable def c102 : Code := Try.f102.body.getD .skip
theorem fn102 : FnOk Try.prog 102 28 [] c102 := ⟨⟨Try.f102, Try.func102, rfl, Try.ntmps102, rfl, callOk Try.func102 (by kernel_rfl) rfl⟩⟩
end Go.Proofs.Ytchaijafpmofdaa
