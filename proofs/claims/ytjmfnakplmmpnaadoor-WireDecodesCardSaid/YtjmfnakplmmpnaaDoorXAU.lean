import Derived.Test.YtjmfnakplmmpnaaDoorXAT
import Derived.Test.YtjmfnakplmmpnaaDoorProg
namespace Go.Proofs.YtjmfnakplmmpnaaDoor
open Go.Sl
set_option linter.unusedVariables false
set_option maxRecDepth 100000
noncomputable def und : TypeId → Option TypeDesc
  | 0 => some (TypeDesc.tuple #[])
  | 1 => some (TypeDesc.func #[] #[] false)
  | 2 => some (TypeDesc.int IntKind.i64)
  | 3 => some (TypeDesc.int IntKind.i64)
  | 4 => some TypeDesc.bool
  | 5 => some (TypeDesc.int IntKind.u8)
  | 6 => some (TypeDesc.int IntKind.u8)
  | 7 => some (TypeDesc.struct #[{ name := "x", type := 2, offset := 0, embedded := false, tag := "", pkgPath := "runtime", byteOffset := 0 }, { name := "y", type := 3, offset := 1, embedded := false, tag := "", pkgPath := "runtime", byteOffset := 8 }, { name := "signed", type := 4, offset := 2, embedded := false, tag := "", pkgPath := "runtime", byteOffset := 16 }, { name := "code", type := 6, offset := 3, embedded := false, tag := "", pkgPath := "runtime", byteOffset := 17 }])
  | 8 => some (TypeDesc.struct #[{ name := "x", type := 2, offset := 0, embedded := false, tag := "", pkgPath := "runtime", byteOffset := 0 }, { name := "y", type := 3, offset := 1, embedded := false, tag := "", pkgPath := "runtime", byteOffset := 8 }, { name := "signed", type := 4, offset := 2, embedded := false, tag := "", pkgPath := "runtime", byteOffset := 16 }, { name := "code", type := 6, offset := 3, embedded := false, tag := "", pkgPath := "runtime", byteOffset := 17 }])
  | 9 => some TypeDesc.string
  | 10 => some TypeDesc.string
  | 11 => some TypeDesc.string
  | 12 => some (TypeDesc.int IntKind.u64)
  | 13 => some (TypeDesc.struct #[{ name := "msg", type := 9, offset := 0, embedded := false, tag := "", pkgPath := "runtime", byteOffset := 0 }, { name := "addr", type := 12, offset := 1, embedded := false, tag := "", pkgPath := "runtime", byteOffset := 16 }])
  | 14 => some (TypeDesc.struct #[{ name := "msg", type := 9, offset := 0, embedded := false, tag := "", pkgPath := "runtime", byteOffset := 0 }, { name := "addr", type := 12, offset := 1, embedded := false, tag := "", pkgPath := "runtime", byteOffset := 16 }])
  | 15 => some (TypeDesc.pointer 149)
  | 16 => some (TypeDesc.pointer 152)
  | 17 => some (TypeDesc.pointer 161)
  | 18 => some (TypeDesc.struct #[{ name := "typ", type := 17, offset := 0, embedded := false, tag := "", pkgPath := "internal/runtime/maps", byteOffset := 0 }])
  | 19 => some (TypeDesc.struct #[{ name := "typ", type := 17, offset := 0, embedded := false, tag := "", pkgPath := "internal/runtime/maps", byteOffset := 0 }])
  | 20 => some (TypeDesc.interface #[])
  | 21 => some (TypeDesc.int IntKind.i32)
  | 22 => some (TypeDesc.array 4 2)
  | 23 => some (TypeDesc.array 4 2)
  | 24 => some (TypeDesc.struct #[{ name := "Name", type := 9, offset := 0, embedded := false, tag := "", pkgPath := "", byteOffset := 0 }, { name := "Weight", type := 2, offset := 1, embedded := false, tag := "", pkgPath := "", byteOffset := 16 }, { name := "Quota", type := 23, offset := 2, embedded := false, tag := "", pkgPath := "", byteOffset := 24 }])
  | 25 => some (TypeDesc.struct #[{ name := "Name", type := 9, offset := 0, embedded := false, tag := "", pkgPath := "", byteOffset := 0 }, { name := "Weight", type := 2, offset := 1, embedded := false, tag := "", pkgPath := "", byteOffset := 16 }, { name := "Quota", type := 23, offset := 2, embedded := false, tag := "", pkgPath := "", byteOffset := 24 }])
  | 26 => some (TypeDesc.slice 2)
  | 27 => some (TypeDesc.slice 23)
  | 28 => some (TypeDesc.slice 9)
  | 29 => some (TypeDesc.struct #[{ name := "ID", type := 2, offset := 0, embedded := false, tag := "", pkgPath := "", byteOffset := 0 }, { name := "Tenant", type := 9, offset := 1, embedded := false, tag := "", pkgPath := "", byteOffset := 8 }, { name := "Priority", type := 2, offset := 2, embedded := false, tag := "", pkgPath := "", byteOffset := 24 }, { name := "Runtime", type := 2, offset := 3, embedded := false, tag := "", pkgPath := "", byteOffset := 32 }, { name := "Parents", type := 26, offset := 4, embedded := false, tag := "", pkgPath := "", byteOffset := 40 }, { name := "Tasks", type := 27, offset := 5, embedded := false, tag := "", pkgPath := "", byteOffset := 64 }, { name := "State", type := 3, offset := 6, embedded := false, tag := "", pkgPath := "", byteOffset := 88 }, { name := "Attempt", type := 2, offset := 7, embedded := false, tag := "", pkgPath := "", byteOffset := 96 }, { name := "Nodes", type := 28, offset := 8, embedded := false, tag := "", pkgPath := "", byteOffset := 104 }, { name := "Start", type := 2, offset := 9, embedded := false, tag := "", pkgPath := "", byteOffset := 128 }, { name := "Done", type := 28, offset := 10, embedded := false, tag := "", pkgPath := "", byteOffset := 136 }])
  | 30 => some (TypeDesc.struct #[{ name := "ID", type := 2, offset := 0, embedded := false, tag := "", pkgPath := "", byteOffset := 0 }, { name := "Tenant", type := 9, offset := 1, embedded := false, tag := "", pkgPath := "", byteOffset := 8 }, { name := "Priority", type := 2, offset := 2, embedded := false, tag := "", pkgPath := "", byteOffset := 24 }, { name := "Runtime", type := 2, offset := 3, embedded := false, tag := "", pkgPath := "", byteOffset := 32 }, { name := "Parents", type := 26, offset := 4, embedded := false, tag := "", pkgPath := "", byteOffset := 40 }, { name := "Tasks", type := 27, offset := 5, embedded := false, tag := "", pkgPath := "", byteOffset := 64 }, { name := "State", type := 3, offset := 6, embedded := false, tag := "", pkgPath := "", byteOffset := 88 }, { name := "Attempt", type := 2, offset := 7, embedded := false, tag := "", pkgPath := "", byteOffset := 96 }, { name := "Nodes", type := 28, offset := 8, embedded := false, tag := "", pkgPath := "", byteOffset := 104 }, { name := "Start", type := 2, offset := 9, embedded := false, tag := "", pkgPath := "", byteOffset := 128 }, { name := "Done", type := 28, offset := 10, embedded := false, tag := "", pkgPath := "", byteOffset := 136 }])
  | 31 => some (TypeDesc.struct #[{ name := "Kind", type := 3, offset := 0, embedded := false, tag := "", pkgPath := "", byteOffset := 0 }, { name := "Tenant", type := 25, offset := 1, embedded := false, tag := "", pkgPath := "", byteOffset := 8 }, { name := "Node", type := 9, offset := 7, embedded := false, tag := "", pkgPath := "", byteOffset := 64 }, { name := "Epoch", type := 2, offset := 8, embedded := false, tag := "", pkgPath := "", byteOffset := 80 }, { name := "Vector", type := 23, offset := 9, embedded := false, tag := "", pkgPath := "", byteOffset := 88 }, { name := "Job", type := 30, offset := 13, embedded := false, tag := "", pkgPath := "", byteOffset := 120 }, { name := "ID", type := 2, offset := 24, embedded := false, tag := "", pkgPath := "", byteOffset := 280 }, { name := "Nodes", type := 28, offset := 25, embedded := false, tag := "", pkgPath := "", byteOffset := 288 }, { name := "State", type := 3, offset := 26, embedded := false, tag := "", pkgPath := "", byteOffset := 312 }])
  | 32 => some (TypeDesc.struct #[{ name := "Kind", type := 3, offset := 0, embedded := false, tag := "", pkgPath := "", byteOffset := 0 }, { name := "Tenant", type := 25, offset := 1, embedded := false, tag := "", pkgPath := "", byteOffset := 8 }, { name := "Node", type := 9, offset := 7, embedded := false, tag := "", pkgPath := "", byteOffset := 64 }, { name := "Epoch", type := 2, offset := 8, embedded := false, tag := "", pkgPath := "", byteOffset := 80 }, { name := "Vector", type := 23, offset := 9, embedded := false, tag := "", pkgPath := "", byteOffset := 88 }, { name := "Job", type := 30, offset := 13, embedded := false, tag := "", pkgPath := "", byteOffset := 120 }, { name := "ID", type := 2, offset := 24, embedded := false, tag := "", pkgPath := "", byteOffset := 280 }, { name := "Nodes", type := 28, offset := 25, embedded := false, tag := "", pkgPath := "", byteOffset := 288 }, { name := "State", type := 3, offset := 26, embedded := false, tag := "", pkgPath := "", byteOffset := 312 }])
  | 33 => some (TypeDesc.func #[] #[4] false)
  | 34 => some (TypeDesc.tuple #[30, 4])
  | 35 => some (TypeDesc.func #[37] #[30, 4] false)
  | 36 => some (TypeDesc.interface #[("Kind", 101)])
  | 37 => some (TypeDesc.interface #[("Kind", 101)])
  | 38 => some (TypeDesc.func #[32] #[37] false)
  | 39 => some (TypeDesc.func #[30, 30] #[4] false)
  | 40 => some (TypeDesc.func #[32] #[4] false)
  | 41 => some (TypeDesc.slice 5)
  | 42 => some (TypeDesc.int IntKind.i64)
  | 43 => some (TypeDesc.tuple #[41, 42])
  | 44 => some (TypeDesc.func #[41] #[41, 42] false)
  | 45 => some (TypeDesc.tuple #[41, 41, 42])
  | 46 => some (TypeDesc.func #[41] #[41, 41, 42] false)
  | 47 => some (TypeDesc.func #[41, 41] #[4] false)
  | 48 => some (TypeDesc.func #[41] #[4] false)
  | 49 => some (TypeDesc.array 2 41)
  | 50 => some (TypeDesc.int IntKind.u16)
  | 51 => some (TypeDesc.func #[49, 50, 5] #[4] false)
  | 52 => some (TypeDesc.func #[37] #[32] false)
  | 53 => some (TypeDesc.func #[37] #[41, 42] false)
  | 54 => some (TypeDesc.func #[32] #[41, 42] false)
  | 55 => some (TypeDesc.func #[37] #[4] false)
  | 56 => some (TypeDesc.tuple #[37, 42])
  | 57 => some (TypeDesc.func #[41] #[37, 42] false)
  | 58 => some (TypeDesc.tuple #[32, 42])
  | 59 => some (TypeDesc.func #[41] #[32, 42] false)
  | 60 => some (TypeDesc.func #[32, 32] #[4] false)
  | 61 => some (TypeDesc.func #[32, 41] #[4] false)
  | 62 => some (TypeDesc.struct #[{ name := "Node", type := 9, offset := 0, embedded := false, tag := "", pkgPath := "", byteOffset := 0 }])
  | 63 => some (TypeDesc.struct #[{ name := "Node", type := 9, offset := 0, embedded := false, tag := "", pkgPath := "", byteOffset := 0 }])
  | 64 => some (TypeDesc.struct #[])
  | 65 => some (TypeDesc.struct #[])
  | 66 => some (TypeDesc.struct #[{ name := "Job", type := 30, offset := 0, embedded := false, tag := "", pkgPath := "", byteOffset := 0 }])
  | 67 => some (TypeDesc.struct #[{ name := "Job", type := 30, offset := 0, embedded := false, tag := "", pkgPath := "", byteOffset := 0 }])
  | 68 => some (TypeDesc.tuple #[67, 4])
  | 69 => some (TypeDesc.struct #[{ name := "Tenant", type := 25, offset := 0, embedded := false, tag := "", pkgPath := "", byteOffset := 0 }])
  | 70 => some (TypeDesc.struct #[{ name := "Tenant", type := 25, offset := 0, embedded := false, tag := "", pkgPath := "", byteOffset := 0 }])
  | 71 => some (TypeDesc.struct #[{ name := "Node", type := 9, offset := 0, embedded := false, tag := "", pkgPath := "", byteOffset := 0 }, { name := "Epoch", type := 2, offset := 1, embedded := false, tag := "", pkgPath := "", byteOffset := 16 }, { name := "Capacity", type := 23, offset := 2, embedded := false, tag := "", pkgPath := "", byteOffset := 24 }])
  | 72 => some (TypeDesc.struct #[{ name := "Node", type := 9, offset := 0, embedded := false, tag := "", pkgPath := "", byteOffset := 0 }, { name := "Epoch", type := 2, offset := 1, embedded := false, tag := "", pkgPath := "", byteOffset := 16 }, { name := "Capacity", type := 23, offset := 2, embedded := false, tag := "", pkgPath := "", byteOffset := 24 }])
  | 73 => some (TypeDesc.struct #[{ name := "Node", type := 9, offset := 0, embedded := false, tag := "", pkgPath := "", byteOffset := 0 }])
  | 74 => some (TypeDesc.struct #[{ name := "Job", type := 2, offset := 0, embedded := false, tag := "", pkgPath := "", byteOffset := 0 }])
  | 75 => some (TypeDesc.struct #[{ name := "Job", type := 2, offset := 0, embedded := false, tag := "", pkgPath := "", byteOffset := 0 }])
  | 76 => some (TypeDesc.struct #[{ name := "Job", type := 2, offset := 0, embedded := false, tag := "", pkgPath := "", byteOffset := 0 }, { name := "Nodes", type := 28, offset := 1, embedded := false, tag := "", pkgPath := "", byteOffset := 8 }])
  | 77 => some (TypeDesc.struct #[{ name := "Job", type := 2, offset := 0, embedded := false, tag := "", pkgPath := "", byteOffset := 0 }, { name := "Nodes", type := 28, offset := 1, embedded := false, tag := "", pkgPath := "", byteOffset := 8 }])
  | 78 => some (TypeDesc.struct #[{ name := "Job", type := 2, offset := 0, embedded := false, tag := "", pkgPath := "", byteOffset := 0 }])
  | 79 => some (TypeDesc.struct #[{ name := "Job", type := 2, offset := 0, embedded := false, tag := "", pkgPath := "", byteOffset := 0 }, { name := "Node", type := 9, offset := 1, embedded := false, tag := "", pkgPath := "", byteOffset := 8 }])
  | 80 => some (TypeDesc.struct #[{ name := "Job", type := 2, offset := 0, embedded := false, tag := "", pkgPath := "", byteOffset := 0 }, { name := "Node", type := 9, offset := 1, embedded := false, tag := "", pkgPath := "", byteOffset := 8 }])
  | 81 => some (TypeDesc.struct #[{ name := "Job", type := 2, offset := 0, embedded := false, tag := "", pkgPath := "", byteOffset := 0 }, { name := "State", type := 3, offset := 1, embedded := false, tag := "", pkgPath := "", byteOffset := 8 }])
  | 82 => some (TypeDesc.struct #[{ name := "Job", type := 2, offset := 0, embedded := false, tag := "", pkgPath := "", byteOffset := 0 }, { name := "State", type := 3, offset := 1, embedded := false, tag := "", pkgPath := "", byteOffset := 8 }])
  | 83 => some (TypeDesc.func #[26, 26] #[4] false)
  | 84 => some (TypeDesc.func #[27, 27] #[4] false)
  | 85 => some (TypeDesc.func #[28, 28] #[4] false)
  | 86 => some (TypeDesc.func #[87] #[41] false)
  | 87 => some (TypeDesc.int IntKind.u32)
  | 88 => some (TypeDesc.func #[123] #[87] true)
  | 89 => some (TypeDesc.func #[41] #[87] false)
  | 90 => some (TypeDesc.func #[41] #[41] false)
  | 91 => some (TypeDesc.int IntKind.u64)
  | 92 => some (TypeDesc.int IntKind.i8)
  | 93 => some (TypeDesc.int IntKind.i8)
  | 94 => some (TypeDesc.struct #[{ name := "buf", type := 41, offset := 0, embedded := false, tag := "", pkgPath := "bytes", byteOffset := 0 }, { name := "off", type := 3, offset := 1, embedded := false, tag := "", pkgPath := "bytes", byteOffset := 24 }, { name := "lastRead", type := 93, offset := 2, embedded := false, tag := "", pkgPath := "bytes", byteOffset := 32 }])
  | 95 => some (TypeDesc.struct #[{ name := "buf", type := 41, offset := 0, embedded := false, tag := "", pkgPath := "bytes", byteOffset := 0 }, { name := "off", type := 3, offset := 1, embedded := false, tag := "", pkgPath := "bytes", byteOffset := 24 }, { name := "lastRead", type := 93, offset := 2, embedded := false, tag := "", pkgPath := "bytes", byteOffset := 32 }])
  | 96 => some (TypeDesc.struct #[{ name := "Buffer", type := 95, offset := 0, embedded := true, tag := "", pkgPath := "", byteOffset := 0 }])
  | 97 => some (TypeDesc.struct #[{ name := "Buffer", type := 95, offset := 0, embedded := true, tag := "", pkgPath := "", byteOffset := 0 }])
  | 98 => some (TypeDesc.interface #[("Error", 139)])
  | 99 => some (TypeDesc.interface #[("Error", 139)])
  | 100 => some (TypeDesc.func #[5] #[99] false)
  | 101 => some (TypeDesc.func #[] #[3] false)
  | 102 => some (TypeDesc.func #[9] #[] false)
  | 103 => some (TypeDesc.func #[26] #[] true)
  | 104 => some (TypeDesc.func #[] #[41] false)
  | 105 => some (TypeDesc.func #[41, 9] #[41] false)
  | 106 => some (TypeDesc.func #[41, 2] #[41] false)
  | 107 => some (TypeDesc.func #[41, 23] #[41] false)
  | 108 => some (TypeDesc.func #[41, 30] #[41] false)
  | 109 => some (TypeDesc.func #[28] #[4] true)
  | 110 => some (TypeDesc.func #[23] #[4] false)
  | 111 => some (TypeDesc.func #[30] #[4] false)
  | 112 => some (TypeDesc.func #[2] #[4] false)
  | 113 => some (TypeDesc.func #[25] #[4] false)
  | 114 => some (TypeDesc.func #[9] #[4] false)
  | 115 => some (TypeDesc.func #[28] #[4] false)
  | 116 => some (TypeDesc.struct #[{ name := "b", type := 41, offset := 0, embedded := false, tag := "", pkgPath := "drover/wire", byteOffset := 0 }, { name := "bad", type := 4, offset := 1, embedded := false, tag := "", pkgPath := "drover/wire", byteOffset := 24 }])
  | 117 => some (TypeDesc.struct #[{ name := "b", type := 41, offset := 0, embedded := false, tag := "", pkgPath := "drover/wire", byteOffset := 0 }, { name := "bad", type := 4, offset := 1, embedded := false, tag := "", pkgPath := "drover/wire", byteOffset := 24 }])
  | 118 => some (TypeDesc.func #[5] #[37] false)
  | 119 => some (TypeDesc.pointer 121)
  | 120 => some (TypeDesc.struct #[{ name := "B", type := 41, offset := 0, embedded := false, tag := "", pkgPath := "", byteOffset := 0 }, { name := "I", type := 3, offset := 1, embedded := false, tag := "", pkgPath := "", byteOffset := 24 }, { name := "Bad", type := 4, offset := 2, embedded := false, tag := "", pkgPath := "", byteOffset := 32 }])
  | 121 => some (TypeDesc.struct #[{ name := "B", type := 41, offset := 0, embedded := false, tag := "", pkgPath := "", byteOffset := 0 }, { name := "I", type := 3, offset := 1, embedded := false, tag := "", pkgPath := "", byteOffset := 24 }, { name := "Bad", type := 4, offset := 2, embedded := false, tag := "", pkgPath := "", byteOffset := 32 }])
  | 122 => some (TypeDesc.func #[3] #[32] false)
  | 123 => some (TypeDesc.slice 41)
  | 124 => some (TypeDesc.pointer 95)
  | 125 => some (TypeDesc.tuple #[3, 4])
  | 126 => some (TypeDesc.func #[3] #[3, 4] false)
  | 127 => some (TypeDesc.func #[3] #[3] false)
  | 128 => some (TypeDesc.pointer 97)
  | 129 => some (TypeDesc.tuple #[3, 99])
  | 130 => some (TypeDesc.func #[9] #[3, 99] false)
  | 131 => some (TypeDesc.func #[41] #[3, 99] false)
  | 132 => some (TypeDesc.func #[41, 133] #[41] false)
  | 133 => some (TypeDesc.int IntKind.u64)
  | 134 => some (TypeDesc.tuple #[3, 3, 42])
  | 135 => some (TypeDesc.func #[9] #[3, 3, 42] false)
  | 136 => some (TypeDesc.tuple #[3, 3])
  | 137 => some (TypeDesc.func #[9, 3] #[3, 3] false)
  | 138 => some (TypeDesc.pointer 117)
  | 139 => some (TypeDesc.func #[] #[9] false)
  | 140 => some (TypeDesc.func #[] #[2] false)
  | 141 => some (TypeDesc.func #[] #[23] false)
  | 142 => some (TypeDesc.func #[] #[30] false)
  | 143 => some (TypeDesc.func #[] #[77] false)
  | 144 => some (TypeDesc.func #[41, 3] #[41] false)
  | 145 => some (TypeDesc.tuple #[133, 3])
  | 146 => some (TypeDesc.func #[41] #[133, 3] false)
  | 147 => some (TypeDesc.pointer 163)
  | 148 => some (TypeDesc.struct #[{ name := "_interface", type := 17, offset := 0, embedded := false, tag := "", pkgPath := "runtime", byteOffset := 0 }, { name := "concrete", type := 17, offset := 1, embedded := false, tag := "", pkgPath := "runtime", byteOffset := 8 }, { name := "asserted", type := 17, offset := 2, embedded := false, tag := "", pkgPath := "runtime", byteOffset := 16 }, { name := "missingMethod", type := 9, offset := 3, embedded := false, tag := "", pkgPath := "runtime", byteOffset := 24 }])
  | 149 => some (TypeDesc.struct #[{ name := "_interface", type := 17, offset := 0, embedded := false, tag := "", pkgPath := "runtime", byteOffset := 0 }, { name := "concrete", type := 17, offset := 1, embedded := false, tag := "", pkgPath := "runtime", byteOffset := 8 }, { name := "asserted", type := 17, offset := 2, embedded := false, tag := "", pkgPath := "runtime", byteOffset := 16 }, { name := "missingMethod", type := 9, offset := 3, embedded := false, tag := "", pkgPath := "runtime", byteOffset := 24 }])
  | 150 => some (TypeDesc.array 0 16)
  | 151 => some (TypeDesc.struct #[{ name := "_", type := 150, offset := 0, embedded := false, tag := "", pkgPath := "runtime", byteOffset := 0 }])
  | 152 => some (TypeDesc.struct #[{ name := "_", type := 150, offset := 0, embedded := false, tag := "", pkgPath := "runtime", byteOffset := 0 }])
  | 153 => some (TypeDesc.func #[] #[155] false)
  | 154 => some (TypeDesc.int IntKind.u8)
  | 155 => some (TypeDesc.int IntKind.u8)
  | 156 => some (TypeDesc.func #[164, 164] #[4] false)
  | 157 => some (TypeDesc.pointer 5)
  | 158 => some (TypeDesc.int IntKind.i32)
  | 159 => some (TypeDesc.int IntKind.i32)
  | 160 => some (TypeDesc.struct #[{ name := "Size_", type := 12, offset := 0, embedded := false, tag := "", pkgPath := "", byteOffset := 0 }, { name := "PtrBytes", type := 12, offset := 1, embedded := false, tag := "", pkgPath := "", byteOffset := 8 }, { name := "Hash", type := 87, offset := 2, embedded := false, tag := "", pkgPath := "", byteOffset := 16 }, { name := "TFlag", type := 154, offset := 3, embedded := false, tag := "", pkgPath := "", byteOffset := 20 }, { name := "Align_", type := 5, offset := 4, embedded := false, tag := "", pkgPath := "", byteOffset := 21 }, { name := "FieldAlign_", type := 5, offset := 5, embedded := false, tag := "", pkgPath := "", byteOffset := 22 }, { name := "Kind_", type := 155, offset := 6, embedded := false, tag := "", pkgPath := "", byteOffset := 23 }, { name := "Equal", type := 156, offset := 7, embedded := false, tag := "", pkgPath := "", byteOffset := 24 }, { name := "GCData", type := 157, offset := 8, embedded := false, tag := "", pkgPath := "", byteOffset := 32 }, { name := "Str", type := 158, offset := 9, embedded := false, tag := "", pkgPath := "", byteOffset := 40 }, { name := "PtrToThis", type := 159, offset := 10, embedded := false, tag := "", pkgPath := "", byteOffset := 44 }])
  | 161 => some (TypeDesc.struct #[{ name := "Size_", type := 12, offset := 0, embedded := false, tag := "", pkgPath := "", byteOffset := 0 }, { name := "PtrBytes", type := 12, offset := 1, embedded := false, tag := "", pkgPath := "", byteOffset := 8 }, { name := "Hash", type := 87, offset := 2, embedded := false, tag := "", pkgPath := "", byteOffset := 16 }, { name := "TFlag", type := 154, offset := 3, embedded := false, tag := "", pkgPath := "", byteOffset := 20 }, { name := "Align_", type := 5, offset := 4, embedded := false, tag := "", pkgPath := "", byteOffset := 21 }, { name := "FieldAlign_", type := 5, offset := 5, embedded := false, tag := "", pkgPath := "", byteOffset := 22 }, { name := "Kind_", type := 155, offset := 6, embedded := false, tag := "", pkgPath := "", byteOffset := 23 }, { name := "Equal", type := 156, offset := 7, embedded := false, tag := "", pkgPath := "", byteOffset := 24 }, { name := "GCData", type := 157, offset := 8, embedded := false, tag := "", pkgPath := "", byteOffset := 32 }, { name := "Str", type := 158, offset := 9, embedded := false, tag := "", pkgPath := "", byteOffset := 40 }, { name := "PtrToThis", type := 159, offset := 10, embedded := false, tag := "", pkgPath := "", byteOffset := 44 }])
  | 162 => some (TypeDesc.struct #[{ name := "s", type := 9, offset := 0, embedded := false, tag := "", pkgPath := "errors", byteOffset := 0 }])
  | 163 => some (TypeDesc.struct #[{ name := "s", type := 9, offset := 0, embedded := false, tag := "", pkgPath := "errors", byteOffset := 0 }])
  | 164 => some TypeDesc.unsafePointer
  | 165 => some (TypeDesc.func #[9] #[99] false)
  | _ => none
set_option maxHeartbeats 4000000 in
theorem und_ok : ∀ t d, und t = some d → Tryd.prog.underlying t = some d := by
  intro t d h
  unfold und at h
  split at h
  · exact h ▸ Tryd.underlying0
  · exact h ▸ Tryd.underlying1
  · exact h ▸ Tryd.underlying2
  · exact h ▸ Tryd.underlying3
  · exact h ▸ Tryd.underlying4
  · exact h ▸ Tryd.underlying5
  · exact h ▸ Tryd.underlying6
  · exact h ▸ Tryd.underlying7
  · exact h ▸ Tryd.underlying8
  · exact h ▸ Tryd.underlying9
  · exact h ▸ Tryd.underlying10
  · exact h ▸ Tryd.underlying11
  · exact h ▸ Tryd.underlying12
  · exact h ▸ Tryd.underlying13
  · exact h ▸ Tryd.underlying14
  · exact h ▸ Tryd.underlying15
  · exact h ▸ Tryd.underlying16
  · exact h ▸ Tryd.underlying17
  · exact h ▸ Tryd.underlying18
  · exact h ▸ Tryd.underlying19
  · exact h ▸ Tryd.underlying20
  · exact h ▸ Tryd.underlying21
  · exact h ▸ Tryd.underlying22
  · exact h ▸ Tryd.underlying23
  · exact h ▸ Tryd.underlying24
  · exact h ▸ Tryd.underlying25
  · exact h ▸ Tryd.underlying26
  · exact h ▸ Tryd.underlying27
  · exact h ▸ Tryd.underlying28
  · exact h ▸ Tryd.underlying29
  · exact h ▸ Tryd.underlying30
  · exact h ▸ Tryd.underlying31
  · exact h ▸ Tryd.underlying32
  · exact h ▸ Tryd.underlying33
  · exact h ▸ Tryd.underlying34
  · exact h ▸ Tryd.underlying35
  · exact h ▸ Tryd.underlying36
  · exact h ▸ Tryd.underlying37
  · exact h ▸ Tryd.underlying38
  · exact h ▸ Tryd.underlying39
  · exact h ▸ Tryd.underlying40
  · exact h ▸ Tryd.underlying41
  · exact h ▸ Tryd.underlying42
  · exact h ▸ Tryd.underlying43
  · exact h ▸ Tryd.underlying44
  · exact h ▸ Tryd.underlying45
  · exact h ▸ Tryd.underlying46
  · exact h ▸ Tryd.underlying47
  · exact h ▸ Tryd.underlying48
  · exact h ▸ Tryd.underlying49
  · exact h ▸ Tryd.underlying50
  · exact h ▸ Tryd.underlying51
  · exact h ▸ Tryd.underlying52
  · exact h ▸ Tryd.underlying53
  · exact h ▸ Tryd.underlying54
  · exact h ▸ Tryd.underlying55
  · exact h ▸ Tryd.underlying56
  · exact h ▸ Tryd.underlying57
  · exact h ▸ Tryd.underlying58
  · exact h ▸ Tryd.underlying59
  · exact h ▸ Tryd.underlying60
  · exact h ▸ Tryd.underlying61
  · exact h ▸ Tryd.underlying62
  · exact h ▸ Tryd.underlying63
  · exact h ▸ Tryd.underlying64
  · exact h ▸ Tryd.underlying65
  · exact h ▸ Tryd.underlying66
  · exact h ▸ Tryd.underlying67
  · exact h ▸ Tryd.underlying68
  · exact h ▸ Tryd.underlying69
  · exact h ▸ Tryd.underlying70
  · exact h ▸ Tryd.underlying71
  · exact h ▸ Tryd.underlying72
  · exact h ▸ Tryd.underlying73
  · exact h ▸ Tryd.underlying74
  · exact h ▸ Tryd.underlying75
  · exact h ▸ Tryd.underlying76
  · exact h ▸ Tryd.underlying77
  · exact h ▸ Tryd.underlying78
  · exact h ▸ Tryd.underlying79
  · exact h ▸ Tryd.underlying80
  · exact h ▸ Tryd.underlying81
  · exact h ▸ Tryd.underlying82
  · exact h ▸ Tryd.underlying83
  · exact h ▸ Tryd.underlying84
  · exact h ▸ Tryd.underlying85
  · exact h ▸ Tryd.underlying86
  · exact h ▸ Tryd.underlying87
  · exact h ▸ Tryd.underlying88
  · exact h ▸ Tryd.underlying89
  · exact h ▸ Tryd.underlying90
  · exact h ▸ Tryd.underlying91
  · exact h ▸ Tryd.underlying92
  · exact h ▸ Tryd.underlying93
  · exact h ▸ Tryd.underlying94
  · exact h ▸ Tryd.underlying95
  · exact h ▸ Tryd.underlying96
  · exact h ▸ Tryd.underlying97
  · exact h ▸ Tryd.underlying98
  · exact h ▸ Tryd.underlying99
  · exact h ▸ Tryd.underlying100
  · exact h ▸ Tryd.underlying101
  · exact h ▸ Tryd.underlying102
  · exact h ▸ Tryd.underlying103
  · exact h ▸ Tryd.underlying104
  · exact h ▸ Tryd.underlying105
  · exact h ▸ Tryd.underlying106
  · exact h ▸ Tryd.underlying107
  · exact h ▸ Tryd.underlying108
  · exact h ▸ Tryd.underlying109
  · exact h ▸ Tryd.underlying110
  · exact h ▸ Tryd.underlying111
  · exact h ▸ Tryd.underlying112
  · exact h ▸ Tryd.underlying113
  · exact h ▸ Tryd.underlying114
  · exact h ▸ Tryd.underlying115
  · exact h ▸ Tryd.underlying116
  · exact h ▸ Tryd.underlying117
  · exact h ▸ Tryd.underlying118
  · exact h ▸ Tryd.underlying119
  · exact h ▸ Tryd.underlying120
  · exact h ▸ Tryd.underlying121
  · exact h ▸ Tryd.underlying122
  · exact h ▸ Tryd.underlying123
  · exact h ▸ Tryd.underlying124
  · exact h ▸ Tryd.underlying125
  · exact h ▸ Tryd.underlying126
  · exact h ▸ Tryd.underlying127
  · exact h ▸ Tryd.underlying128
  · exact h ▸ Tryd.underlying129
  · exact h ▸ Tryd.underlying130
  · exact h ▸ Tryd.underlying131
  · exact h ▸ Tryd.underlying132
  · exact h ▸ Tryd.underlying133
  · exact h ▸ Tryd.underlying134
  · exact h ▸ Tryd.underlying135
  · exact h ▸ Tryd.underlying136
  · exact h ▸ Tryd.underlying137
  · exact h ▸ Tryd.underlying138
  · exact h ▸ Tryd.underlying139
  · exact h ▸ Tryd.underlying140
  · exact h ▸ Tryd.underlying141
  · exact h ▸ Tryd.underlying142
  · exact h ▸ Tryd.underlying143
  · exact h ▸ Tryd.underlying144
  · exact h ▸ Tryd.underlying145
  · exact h ▸ Tryd.underlying146
  · exact h ▸ Tryd.underlying147
  · exact h ▸ Tryd.underlying148
  · exact h ▸ Tryd.underlying149
  · exact h ▸ Tryd.underlying150
  · exact h ▸ Tryd.underlying151
  · exact h ▸ Tryd.underlying152
  · exact h ▸ Tryd.underlying153
  · exact h ▸ Tryd.underlying154
  · exact h ▸ Tryd.underlying155
  · exact h ▸ Tryd.underlying156
  · exact h ▸ Tryd.underlying157
  · exact h ▸ Tryd.underlying158
  · exact h ▸ Tryd.underlying159
  · exact h ▸ Tryd.underlying160
  · exact h ▸ Tryd.underlying161
  · exact h ▸ Tryd.underlying162
  · exact h ▸ Tryd.underlying163
  · exact h ▸ Tryd.underlying164
  · exact h ▸ Tryd.underlying165
  · cases h
noncomputable def inf : TypeId → Option (Value × Nat × Nat)
  | 0 => some ((.tuple #[]), 1, 0)
  | 1 => some (.nilFunc, 1, 8)
  | 2 => some ((.int .i64 0), 1, 8)
  | 3 => some ((.int .i64 0), 1, 8)
  | 4 => some ((.bool false), 1, 1)
  | 5 => some ((.int .u8 0), 1, 1)
  | 6 => some ((.int .u8 0), 1, 1)
  | 7 => some ((.agg #[(.int .i64 0), (.int .i64 0), (.bool false), (.int .u8 0)]), 4, 24)
  | 8 => some ((.agg #[(.int .i64 0), (.int .i64 0), (.bool false), (.int .u8 0)]), 4, 24)
  | 9 => some ((.string ⟨#[]⟩), 1, 16)
  | 10 => some ((.string ⟨#[]⟩), 1, 16)
  | 11 => some ((.string ⟨#[]⟩), 1, 16)
  | 12 => some ((.int .u64 0), 1, 8)
  | 13 => some ((.agg #[(.string ⟨#[]⟩), (.int .u64 0)]), 2, 24)
  | 14 => some ((.agg #[(.string ⟨#[]⟩), (.int .u64 0)]), 2, 24)
  | 15 => some ((.pointer none), 1, 8)
  | 16 => some ((.pointer none), 1, 8)
  | 17 => some ((.pointer none), 1, 8)
  | 18 => some ((.agg #[(.pointer none)]), 1, 8)
  | 19 => some ((.agg #[(.pointer none)]), 1, 8)
  | 20 => some (.nilIface, 1, 16)
  | 21 => some ((.int .i32 0), 1, 4)
  | 22 => some ((.agg #[(.int .i64 0), (.int .i64 0), (.int .i64 0), (.int .i64 0)]), 4, 32)
  | 23 => some ((.agg #[(.int .i64 0), (.int .i64 0), (.int .i64 0), (.int .i64 0)]), 4, 32)
  | 24 => some ((.agg #[(.string ⟨#[]⟩), (.int .i64 0), (.int .i64 0), (.int .i64 0), (.int .i64 0), (.int .i64 0)]), 6, 56)
  | 25 => some ((.agg #[(.string ⟨#[]⟩), (.int .i64 0), (.int .i64 0), (.int .i64 0), (.int .i64 0), (.int .i64 0)]), 6, 56)
  | 26 => some ((.slice none 0 0), 1, 24)
  | 27 => some ((.slice none 0 0), 1, 24)
  | 28 => some ((.slice none 0 0), 1, 24)
  | 29 => some ((.agg #[(.int .i64 0), (.string ⟨#[]⟩), (.int .i64 0), (.int .i64 0), (.slice none 0 0), (.slice none 0 0), (.int .i64 0), (.int .i64 0), (.slice none 0 0), (.int .i64 0), (.slice none 0 0)]), 11, 160)
  | 30 => some ((.agg #[(.int .i64 0), (.string ⟨#[]⟩), (.int .i64 0), (.int .i64 0), (.slice none 0 0), (.slice none 0 0), (.int .i64 0), (.int .i64 0), (.slice none 0 0), (.int .i64 0), (.slice none 0 0)]), 11, 160)
  | 31 => some ((.agg #[(.int .i64 0), (.string ⟨#[]⟩), (.int .i64 0), (.int .i64 0), (.int .i64 0), (.int .i64 0), (.int .i64 0), (.string ⟨#[]⟩), (.int .i64 0), (.int .i64 0), (.int .i64 0), (.int .i64 0), (.int .i64 0), (.int .i64 0), (.string ⟨#[]⟩), (.int .i64 0), (.int .i64 0), (.slice none 0 0), (.slice none 0 0), (.int .i64 0), (.int .i64 0), (.slice none 0 0), (.int .i64 0), (.slice none 0 0), (.int .i64 0), (.slice none 0 0), (.int .i64 0)]), 27, 320)
  | 32 => some ((.agg #[(.int .i64 0), (.string ⟨#[]⟩), (.int .i64 0), (.int .i64 0), (.int .i64 0), (.int .i64 0), (.int .i64 0), (.string ⟨#[]⟩), (.int .i64 0), (.int .i64 0), (.int .i64 0), (.int .i64 0), (.int .i64 0), (.int .i64 0), (.string ⟨#[]⟩), (.int .i64 0), (.int .i64 0), (.slice none 0 0), (.slice none 0 0), (.int .i64 0), (.int .i64 0), (.slice none 0 0), (.int .i64 0), (.slice none 0 0), (.int .i64 0), (.slice none 0 0), (.int .i64 0)]), 27, 320)
  | 33 => some (.nilFunc, 1, 8)
  | 34 => some ((.tuple #[(.agg #[(.int .i64 0), (.string ⟨#[]⟩), (.int .i64 0), (.int .i64 0), (.slice none 0 0), (.slice none 0 0), (.int .i64 0), (.int .i64 0), (.slice none 0 0), (.int .i64 0), (.slice none 0 0)]), (.bool false)]), 1, 0)
  | 35 => some (.nilFunc, 1, 8)
  | 36 => some (.nilIface, 1, 16)
  | 37 => some (.nilIface, 1, 16)
  | 38 => some (.nilFunc, 1, 8)
  | 39 => some (.nilFunc, 1, 8)
  | 40 => some (.nilFunc, 1, 8)
  | 41 => some ((.slice none 0 0), 1, 24)
  | 42 => some ((.int .i64 0), 1, 8)
  | 43 => some ((.tuple #[(.slice none 0 0), (.int .i64 0)]), 1, 0)
  | 44 => some (.nilFunc, 1, 8)
  | 45 => some ((.tuple #[(.slice none 0 0), (.slice none 0 0), (.int .i64 0)]), 1, 0)
  | 46 => some (.nilFunc, 1, 8)
  | 47 => some (.nilFunc, 1, 8)
  | 48 => some (.nilFunc, 1, 8)
  | 49 => some ((.agg #[(.slice none 0 0), (.slice none 0 0)]), 2, 48)
  | 50 => some ((.int .u16 0), 1, 2)
  | 51 => some (.nilFunc, 1, 8)
  | 52 => some (.nilFunc, 1, 8)
  | 53 => some (.nilFunc, 1, 8)
  | 54 => some (.nilFunc, 1, 8)
  | 55 => some (.nilFunc, 1, 8)
  | 56 => some ((.tuple #[.nilIface, (.int .i64 0)]), 1, 0)
  | 57 => some (.nilFunc, 1, 8)
  | 58 => some ((.tuple #[(.agg #[(.int .i64 0), (.string ⟨#[]⟩), (.int .i64 0), (.int .i64 0), (.int .i64 0), (.int .i64 0), (.int .i64 0), (.string ⟨#[]⟩), (.int .i64 0), (.int .i64 0), (.int .i64 0), (.int .i64 0), (.int .i64 0), (.int .i64 0), (.string ⟨#[]⟩), (.int .i64 0), (.int .i64 0), (.slice none 0 0), (.slice none 0 0), (.int .i64 0), (.int .i64 0), (.slice none 0 0), (.int .i64 0), (.slice none 0 0), (.int .i64 0), (.slice none 0 0), (.int .i64 0)]), (.int .i64 0)]), 1, 0)
  | 59 => some (.nilFunc, 1, 8)
  | 60 => some (.nilFunc, 1, 8)
  | 61 => some (.nilFunc, 1, 8)
  | 62 => some ((.agg #[(.string ⟨#[]⟩)]), 1, 16)
  | 63 => some ((.agg #[(.string ⟨#[]⟩)]), 1, 16)
  | 64 => some ((.agg #[]), 0, 0)
  | 65 => some ((.agg #[]), 0, 0)
  | 66 => some ((.agg #[(.int .i64 0), (.string ⟨#[]⟩), (.int .i64 0), (.int .i64 0), (.slice none 0 0), (.slice none 0 0), (.int .i64 0), (.int .i64 0), (.slice none 0 0), (.int .i64 0), (.slice none 0 0)]), 11, 160)
  | 67 => some ((.agg #[(.int .i64 0), (.string ⟨#[]⟩), (.int .i64 0), (.int .i64 0), (.slice none 0 0), (.slice none 0 0), (.int .i64 0), (.int .i64 0), (.slice none 0 0), (.int .i64 0), (.slice none 0 0)]), 11, 160)
  | 68 => some ((.tuple #[(.agg #[(.int .i64 0), (.string ⟨#[]⟩), (.int .i64 0), (.int .i64 0), (.slice none 0 0), (.slice none 0 0), (.int .i64 0), (.int .i64 0), (.slice none 0 0), (.int .i64 0), (.slice none 0 0)]), (.bool false)]), 1, 0)
  | 69 => some ((.agg #[(.string ⟨#[]⟩), (.int .i64 0), (.int .i64 0), (.int .i64 0), (.int .i64 0), (.int .i64 0)]), 6, 56)
  | 70 => some ((.agg #[(.string ⟨#[]⟩), (.int .i64 0), (.int .i64 0), (.int .i64 0), (.int .i64 0), (.int .i64 0)]), 6, 56)
  | 71 => some ((.agg #[(.string ⟨#[]⟩), (.int .i64 0), (.int .i64 0), (.int .i64 0), (.int .i64 0), (.int .i64 0)]), 6, 56)
  | 72 => some ((.agg #[(.string ⟨#[]⟩), (.int .i64 0), (.int .i64 0), (.int .i64 0), (.int .i64 0), (.int .i64 0)]), 6, 56)
  | 73 => some ((.agg #[(.string ⟨#[]⟩)]), 1, 16)
  | 74 => some ((.agg #[(.int .i64 0)]), 1, 8)
  | 75 => some ((.agg #[(.int .i64 0)]), 1, 8)
  | 76 => some ((.agg #[(.int .i64 0), (.slice none 0 0)]), 2, 32)
  | 77 => some ((.agg #[(.int .i64 0), (.slice none 0 0)]), 2, 32)
  | 78 => some ((.agg #[(.int .i64 0)]), 1, 8)
  | 79 => some ((.agg #[(.int .i64 0), (.string ⟨#[]⟩)]), 2, 24)
  | 80 => some ((.agg #[(.int .i64 0), (.string ⟨#[]⟩)]), 2, 24)
  | 81 => some ((.agg #[(.int .i64 0), (.int .i64 0)]), 2, 16)
  | 82 => some ((.agg #[(.int .i64 0), (.int .i64 0)]), 2, 16)
  | 83 => some (.nilFunc, 1, 8)
  | 84 => some (.nilFunc, 1, 8)
  | 85 => some (.nilFunc, 1, 8)
  | 86 => some (.nilFunc, 1, 8)
  | 87 => some ((.int .u32 0), 1, 4)
  | 88 => some (.nilFunc, 1, 8)
  | 89 => some (.nilFunc, 1, 8)
  | 90 => some (.nilFunc, 1, 8)
  | 91 => some ((.int .u64 0), 1, 8)
  | 92 => some ((.int .i8 0), 1, 1)
  | 93 => some ((.int .i8 0), 1, 1)
  | 94 => some ((.agg #[(.slice none 0 0), (.int .i64 0), (.int .i8 0)]), 3, 40)
  | 95 => some ((.agg #[(.slice none 0 0), (.int .i64 0), (.int .i8 0)]), 3, 40)
  | 96 => some ((.agg #[(.slice none 0 0), (.int .i64 0), (.int .i8 0)]), 3, 40)
  | 97 => some ((.agg #[(.slice none 0 0), (.int .i64 0), (.int .i8 0)]), 3, 40)
  | 98 => some (.nilIface, 1, 16)
  | 99 => some (.nilIface, 1, 16)
  | 100 => some (.nilFunc, 1, 8)
  | 101 => some (.nilFunc, 1, 8)
  | 102 => some (.nilFunc, 1, 8)
  | 103 => some (.nilFunc, 1, 8)
  | 104 => some (.nilFunc, 1, 8)
  | 105 => some (.nilFunc, 1, 8)
  | 106 => some (.nilFunc, 1, 8)
  | 107 => some (.nilFunc, 1, 8)
  | 108 => some (.nilFunc, 1, 8)
  | 109 => some (.nilFunc, 1, 8)
  | 110 => some (.nilFunc, 1, 8)
  | 111 => some (.nilFunc, 1, 8)
  | 112 => some (.nilFunc, 1, 8)
  | 113 => some (.nilFunc, 1, 8)
  | 114 => some (.nilFunc, 1, 8)
  | 115 => some (.nilFunc, 1, 8)
  | 116 => some ((.agg #[(.slice none 0 0), (.bool false)]), 2, 32)
  | 117 => some ((.agg #[(.slice none 0 0), (.bool false)]), 2, 32)
  | 118 => some (.nilFunc, 1, 8)
  | 119 => some ((.pointer none), 1, 8)
  | 120 => some ((.agg #[(.slice none 0 0), (.int .i64 0), (.bool false)]), 3, 40)
  | 121 => some ((.agg #[(.slice none 0 0), (.int .i64 0), (.bool false)]), 3, 40)
  | 122 => some (.nilFunc, 1, 8)
  | 123 => some ((.slice none 0 0), 1, 24)
  | 124 => some ((.pointer none), 1, 8)
  | 125 => some ((.tuple #[(.int .i64 0), (.bool false)]), 1, 0)
  | 126 => some (.nilFunc, 1, 8)
  | 127 => some (.nilFunc, 1, 8)
  | 128 => some ((.pointer none), 1, 8)
  | 129 => some ((.tuple #[(.int .i64 0), .nilIface]), 1, 0)
  | 130 => some (.nilFunc, 1, 8)
  | 131 => some (.nilFunc, 1, 8)
  | 132 => some (.nilFunc, 1, 8)
  | 133 => some ((.int .u64 0), 1, 8)
  | 134 => some ((.tuple #[(.int .i64 0), (.int .i64 0), (.int .i64 0)]), 1, 0)
  | 135 => some (.nilFunc, 1, 8)
  | 136 => some ((.tuple #[(.int .i64 0), (.int .i64 0)]), 1, 0)
  | 137 => some (.nilFunc, 1, 8)
  | 138 => some ((.pointer none), 1, 8)
  | 139 => some (.nilFunc, 1, 8)
  | 140 => some (.nilFunc, 1, 8)
  | 141 => some (.nilFunc, 1, 8)
  | 142 => some (.nilFunc, 1, 8)
  | 143 => some (.nilFunc, 1, 8)
  | 144 => some (.nilFunc, 1, 8)
  | 145 => some ((.tuple #[(.int .u64 0), (.int .i64 0)]), 1, 0)
  | 146 => some (.nilFunc, 1, 8)
  | 147 => some ((.pointer none), 1, 8)
  | 148 => some ((.agg #[(.pointer none), (.pointer none), (.pointer none), (.string ⟨#[]⟩)]), 4, 40)
  | 149 => some ((.agg #[(.pointer none), (.pointer none), (.pointer none), (.string ⟨#[]⟩)]), 4, 40)
  | 150 => some ((.agg #[]), 0, 0)
  | 151 => some ((.agg #[]), 0, 0)
  | 152 => some ((.agg #[]), 0, 0)
  | 153 => some (.nilFunc, 1, 8)
  | 154 => some ((.int .u8 0), 1, 1)
  | 155 => some ((.int .u8 0), 1, 1)
  | 156 => some (.nilFunc, 1, 8)
  | 157 => some ((.pointer none), 1, 8)
  | 158 => some ((.int .i32 0), 1, 4)
  | 159 => some ((.int .i32 0), 1, 4)
  | 160 => some ((.agg #[(.int .u64 0), (.int .u64 0), (.int .u32 0), (.int .u8 0), (.int .u8 0), (.int .u8 0), (.int .u8 0), .nilFunc, (.pointer none), (.int .i32 0), (.int .i32 0)]), 11, 48)
  | 161 => some ((.agg #[(.int .u64 0), (.int .u64 0), (.int .u32 0), (.int .u8 0), (.int .u8 0), (.int .u8 0), (.int .u8 0), .nilFunc, (.pointer none), (.int .i32 0), (.int .i32 0)]), 11, 48)
  | 162 => some ((.agg #[(.string ⟨#[]⟩)]), 1, 16)
  | 163 => some ((.agg #[(.string ⟨#[]⟩)]), 1, 16)
  | 164 => some ((.pointer none), 1, 8)
  | 165 => some (.nilFunc, 1, 8)
  | _ => none
theorem inf_mk {t : TypeId} {z : Value} {s b : Nat} (h : (Tryd.prog.info? t).map (fun i => (i.zero, i.size, i.bytes)) = some (some z, s, b)) : ∃ i, Tryd.prog.info? t = some i ∧ i.zero = some z ∧ i.size = s ∧ i.bytes = b := by
  cases hi : Tryd.prog.info? t with
  | none => rw [hi] at h; cases h
  | some i => rw [hi] at h; simp only [Option.map_some, Option.some.injEq, Prod.mk.injEq] at h; exact ⟨i, rfl, h.1, h.2.1, h.2.2⟩
theorem inf0 : (Tryd.prog.info? 0).map (fun i => (i.zero, i.size, i.bytes)) = some (some (.tuple #[]), 1, 0) := by kernel_rfl
theorem inf1 : (Tryd.prog.info? 1).map (fun i => (i.zero, i.size, i.bytes)) = some (some .nilFunc, 1, 8) := by kernel_rfl
theorem inf2 : (Tryd.prog.info? 2).map (fun i => (i.zero, i.size, i.bytes)) = some (some (.int .i64 0), 1, 8) := by kernel_rfl
theorem inf3 : (Tryd.prog.info? 3).map (fun i => (i.zero, i.size, i.bytes)) = some (some (.int .i64 0), 1, 8) := by kernel_rfl
theorem inf4 : (Tryd.prog.info? 4).map (fun i => (i.zero, i.size, i.bytes)) = some (some (.bool false), 1, 1) := by kernel_rfl
theorem inf5 : (Tryd.prog.info? 5).map (fun i => (i.zero, i.size, i.bytes)) = some (some (.int .u8 0), 1, 1) := by kernel_rfl
theorem inf6 : (Tryd.prog.info? 6).map (fun i => (i.zero, i.size, i.bytes)) = some (some (.int .u8 0), 1, 1) := by kernel_rfl
theorem inf7 : (Tryd.prog.info? 7).map (fun i => (i.zero, i.size, i.bytes)) = some (some (.agg #[(.int .i64 0), (.int .i64 0), (.bool false), (.int .u8 0)]), 4, 24) := by kernel_rfl
theorem inf8 : (Tryd.prog.info? 8).map (fun i => (i.zero, i.size, i.bytes)) = some (some (.agg #[(.int .i64 0), (.int .i64 0), (.bool false), (.int .u8 0)]), 4, 24) := by kernel_rfl
theorem inf9 : (Tryd.prog.info? 9).map (fun i => (i.zero, i.size, i.bytes)) = some (some (.string ⟨#[]⟩), 1, 16) := by kernel_rfl
theorem inf10 : (Tryd.prog.info? 10).map (fun i => (i.zero, i.size, i.bytes)) = some (some (.string ⟨#[]⟩), 1, 16) := by kernel_rfl
theorem inf11 : (Tryd.prog.info? 11).map (fun i => (i.zero, i.size, i.bytes)) = some (some (.string ⟨#[]⟩), 1, 16) := by kernel_rfl
theorem inf12 : (Tryd.prog.info? 12).map (fun i => (i.zero, i.size, i.bytes)) = some (some (.int .u64 0), 1, 8) := by kernel_rfl
theorem inf13 : (Tryd.prog.info? 13).map (fun i => (i.zero, i.size, i.bytes)) = some (some (.agg #[(.string ⟨#[]⟩), (.int .u64 0)]), 2, 24) := by kernel_rfl
theorem inf14 : (Tryd.prog.info? 14).map (fun i => (i.zero, i.size, i.bytes)) = some (some (.agg #[(.string ⟨#[]⟩), (.int .u64 0)]), 2, 24) := by kernel_rfl
theorem inf15 : (Tryd.prog.info? 15).map (fun i => (i.zero, i.size, i.bytes)) = some (some (.pointer none), 1, 8) := by kernel_rfl
theorem inf16 : (Tryd.prog.info? 16).map (fun i => (i.zero, i.size, i.bytes)) = some (some (.pointer none), 1, 8) := by kernel_rfl
theorem inf17 : (Tryd.prog.info? 17).map (fun i => (i.zero, i.size, i.bytes)) = some (some (.pointer none), 1, 8) := by kernel_rfl
theorem inf18 : (Tryd.prog.info? 18).map (fun i => (i.zero, i.size, i.bytes)) = some (some (.agg #[(.pointer none)]), 1, 8) := by kernel_rfl
theorem inf19 : (Tryd.prog.info? 19).map (fun i => (i.zero, i.size, i.bytes)) = some (some (.agg #[(.pointer none)]), 1, 8) := by kernel_rfl
theorem inf20 : (Tryd.prog.info? 20).map (fun i => (i.zero, i.size, i.bytes)) = some (some .nilIface, 1, 16) := by kernel_rfl
theorem inf21 : (Tryd.prog.info? 21).map (fun i => (i.zero, i.size, i.bytes)) = some (some (.int .i32 0), 1, 4) := by kernel_rfl
theorem inf22 : (Tryd.prog.info? 22).map (fun i => (i.zero, i.size, i.bytes)) = some (some (.agg #[(.int .i64 0), (.int .i64 0), (.int .i64 0), (.int .i64 0)]), 4, 32) := by kernel_rfl
theorem inf23 : (Tryd.prog.info? 23).map (fun i => (i.zero, i.size, i.bytes)) = some (some (.agg #[(.int .i64 0), (.int .i64 0), (.int .i64 0), (.int .i64 0)]), 4, 32) := by kernel_rfl
theorem inf24 : (Tryd.prog.info? 24).map (fun i => (i.zero, i.size, i.bytes)) = some (some (.agg #[(.string ⟨#[]⟩), (.int .i64 0), (.int .i64 0), (.int .i64 0), (.int .i64 0), (.int .i64 0)]), 6, 56) := by kernel_rfl
theorem inf25 : (Tryd.prog.info? 25).map (fun i => (i.zero, i.size, i.bytes)) = some (some (.agg #[(.string ⟨#[]⟩), (.int .i64 0), (.int .i64 0), (.int .i64 0), (.int .i64 0), (.int .i64 0)]), 6, 56) := by kernel_rfl
theorem inf26 : (Tryd.prog.info? 26).map (fun i => (i.zero, i.size, i.bytes)) = some (some (.slice none 0 0), 1, 24) := by kernel_rfl
theorem inf27 : (Tryd.prog.info? 27).map (fun i => (i.zero, i.size, i.bytes)) = some (some (.slice none 0 0), 1, 24) := by kernel_rfl
theorem inf28 : (Tryd.prog.info? 28).map (fun i => (i.zero, i.size, i.bytes)) = some (some (.slice none 0 0), 1, 24) := by kernel_rfl
theorem inf29 : (Tryd.prog.info? 29).map (fun i => (i.zero, i.size, i.bytes)) = some (some (.agg #[(.int .i64 0), (.string ⟨#[]⟩), (.int .i64 0), (.int .i64 0), (.slice none 0 0), (.slice none 0 0), (.int .i64 0), (.int .i64 0), (.slice none 0 0), (.int .i64 0), (.slice none 0 0)]), 11, 160) := by kernel_rfl
theorem inf30 : (Tryd.prog.info? 30).map (fun i => (i.zero, i.size, i.bytes)) = some (some (.agg #[(.int .i64 0), (.string ⟨#[]⟩), (.int .i64 0), (.int .i64 0), (.slice none 0 0), (.slice none 0 0), (.int .i64 0), (.int .i64 0), (.slice none 0 0), (.int .i64 0), (.slice none 0 0)]), 11, 160) := by kernel_rfl
theorem inf31 : (Tryd.prog.info? 31).map (fun i => (i.zero, i.size, i.bytes)) = some (some (.agg #[(.int .i64 0), (.string ⟨#[]⟩), (.int .i64 0), (.int .i64 0), (.int .i64 0), (.int .i64 0), (.int .i64 0), (.string ⟨#[]⟩), (.int .i64 0), (.int .i64 0), (.int .i64 0), (.int .i64 0), (.int .i64 0), (.int .i64 0), (.string ⟨#[]⟩), (.int .i64 0), (.int .i64 0), (.slice none 0 0), (.slice none 0 0), (.int .i64 0), (.int .i64 0), (.slice none 0 0), (.int .i64 0), (.slice none 0 0), (.int .i64 0), (.slice none 0 0), (.int .i64 0)]), 27, 320) := by kernel_rfl
theorem inf32 : (Tryd.prog.info? 32).map (fun i => (i.zero, i.size, i.bytes)) = some (some (.agg #[(.int .i64 0), (.string ⟨#[]⟩), (.int .i64 0), (.int .i64 0), (.int .i64 0), (.int .i64 0), (.int .i64 0), (.string ⟨#[]⟩), (.int .i64 0), (.int .i64 0), (.int .i64 0), (.int .i64 0), (.int .i64 0), (.int .i64 0), (.string ⟨#[]⟩), (.int .i64 0), (.int .i64 0), (.slice none 0 0), (.slice none 0 0), (.int .i64 0), (.int .i64 0), (.slice none 0 0), (.int .i64 0), (.slice none 0 0), (.int .i64 0), (.slice none 0 0), (.int .i64 0)]), 27, 320) := by kernel_rfl
theorem inf33 : (Tryd.prog.info? 33).map (fun i => (i.zero, i.size, i.bytes)) = some (some .nilFunc, 1, 8) := by kernel_rfl
theorem inf34 : (Tryd.prog.info? 34).map (fun i => (i.zero, i.size, i.bytes)) = some (some (.tuple #[(.agg #[(.int .i64 0), (.string ⟨#[]⟩), (.int .i64 0), (.int .i64 0), (.slice none 0 0), (.slice none 0 0), (.int .i64 0), (.int .i64 0), (.slice none 0 0), (.int .i64 0), (.slice none 0 0)]), (.bool false)]), 1, 0) := by kernel_rfl
theorem inf35 : (Tryd.prog.info? 35).map (fun i => (i.zero, i.size, i.bytes)) = some (some .nilFunc, 1, 8) := by kernel_rfl
theorem inf36 : (Tryd.prog.info? 36).map (fun i => (i.zero, i.size, i.bytes)) = some (some .nilIface, 1, 16) := by kernel_rfl
theorem inf37 : (Tryd.prog.info? 37).map (fun i => (i.zero, i.size, i.bytes)) = some (some .nilIface, 1, 16) := by kernel_rfl
theorem inf38 : (Tryd.prog.info? 38).map (fun i => (i.zero, i.size, i.bytes)) = some (some .nilFunc, 1, 8) := by kernel_rfl
theorem inf39 : (Tryd.prog.info? 39).map (fun i => (i.zero, i.size, i.bytes)) = some (some .nilFunc, 1, 8) := by kernel_rfl
theorem inf40 : (Tryd.prog.info? 40).map (fun i => (i.zero, i.size, i.bytes)) = some (some .nilFunc, 1, 8) := by kernel_rfl
theorem inf41 : (Tryd.prog.info? 41).map (fun i => (i.zero, i.size, i.bytes)) = some (some (.slice none 0 0), 1, 24) := by kernel_rfl
theorem inf42 : (Tryd.prog.info? 42).map (fun i => (i.zero, i.size, i.bytes)) = some (some (.int .i64 0), 1, 8) := by kernel_rfl
theorem inf43 : (Tryd.prog.info? 43).map (fun i => (i.zero, i.size, i.bytes)) = some (some (.tuple #[(.slice none 0 0), (.int .i64 0)]), 1, 0) := by kernel_rfl
theorem inf44 : (Tryd.prog.info? 44).map (fun i => (i.zero, i.size, i.bytes)) = some (some .nilFunc, 1, 8) := by kernel_rfl
theorem inf45 : (Tryd.prog.info? 45).map (fun i => (i.zero, i.size, i.bytes)) = some (some (.tuple #[(.slice none 0 0), (.slice none 0 0), (.int .i64 0)]), 1, 0) := by kernel_rfl
theorem inf46 : (Tryd.prog.info? 46).map (fun i => (i.zero, i.size, i.bytes)) = some (some .nilFunc, 1, 8) := by kernel_rfl
theorem inf47 : (Tryd.prog.info? 47).map (fun i => (i.zero, i.size, i.bytes)) = some (some .nilFunc, 1, 8) := by kernel_rfl
theorem inf48 : (Tryd.prog.info? 48).map (fun i => (i.zero, i.size, i.bytes)) = some (some .nilFunc, 1, 8) := by kernel_rfl
theorem inf49 : (Tryd.prog.info? 49).map (fun i => (i.zero, i.size, i.bytes)) = some (some (.agg #[(.slice none 0 0), (.slice none 0 0)]), 2, 48) := by kernel_rfl
theorem inf50 : (Tryd.prog.info? 50).map (fun i => (i.zero, i.size, i.bytes)) = some (some (.int .u16 0), 1, 2) := by kernel_rfl
theorem inf51 : (Tryd.prog.info? 51).map (fun i => (i.zero, i.size, i.bytes)) = some (some .nilFunc, 1, 8) := by kernel_rfl
theorem inf52 : (Tryd.prog.info? 52).map (fun i => (i.zero, i.size, i.bytes)) = some (some .nilFunc, 1, 8) := by kernel_rfl
theorem inf53 : (Tryd.prog.info? 53).map (fun i => (i.zero, i.size, i.bytes)) = some (some .nilFunc, 1, 8) := by kernel_rfl
theorem inf54 : (Tryd.prog.info? 54).map (fun i => (i.zero, i.size, i.bytes)) = some (some .nilFunc, 1, 8) := by kernel_rfl
theorem inf55 : (Tryd.prog.info? 55).map (fun i => (i.zero, i.size, i.bytes)) = some (some .nilFunc, 1, 8) := by kernel_rfl
theorem inf56 : (Tryd.prog.info? 56).map (fun i => (i.zero, i.size, i.bytes)) = some (some (.tuple #[.nilIface, (.int .i64 0)]), 1, 0) := by kernel_rfl
theorem inf57 : (Tryd.prog.info? 57).map (fun i => (i.zero, i.size, i.bytes)) = some (some .nilFunc, 1, 8) := by kernel_rfl
theorem inf58 : (Tryd.prog.info? 58).map (fun i => (i.zero, i.size, i.bytes)) = some (some (.tuple #[(.agg #[(.int .i64 0), (.string ⟨#[]⟩), (.int .i64 0), (.int .i64 0), (.int .i64 0), (.int .i64 0), (.int .i64 0), (.string ⟨#[]⟩), (.int .i64 0), (.int .i64 0), (.int .i64 0), (.int .i64 0), (.int .i64 0), (.int .i64 0), (.string ⟨#[]⟩), (.int .i64 0), (.int .i64 0), (.slice none 0 0), (.slice none 0 0), (.int .i64 0), (.int .i64 0), (.slice none 0 0), (.int .i64 0), (.slice none 0 0), (.int .i64 0), (.slice none 0 0), (.int .i64 0)]), (.int .i64 0)]), 1, 0) := by kernel_rfl
theorem inf59 : (Tryd.prog.info? 59).map (fun i => (i.zero, i.size, i.bytes)) = some (some .nilFunc, 1, 8) := by kernel_rfl
theorem inf60 : (Tryd.prog.info? 60).map (fun i => (i.zero, i.size, i.bytes)) = some (some .nilFunc, 1, 8) := by kernel_rfl
theorem inf61 : (Tryd.prog.info? 61).map (fun i => (i.zero, i.size, i.bytes)) = some (some .nilFunc, 1, 8) := by kernel_rfl
theorem inf62 : (Tryd.prog.info? 62).map (fun i => (i.zero, i.size, i.bytes)) = some (some (.agg #[(.string ⟨#[]⟩)]), 1, 16) := by kernel_rfl
theorem inf63 : (Tryd.prog.info? 63).map (fun i => (i.zero, i.size, i.bytes)) = some (some (.agg #[(.string ⟨#[]⟩)]), 1, 16) := by kernel_rfl
theorem inf64 : (Tryd.prog.info? 64).map (fun i => (i.zero, i.size, i.bytes)) = some (some (.agg #[]), 0, 0) := by kernel_rfl
theorem inf65 : (Tryd.prog.info? 65).map (fun i => (i.zero, i.size, i.bytes)) = some (some (.agg #[]), 0, 0) := by kernel_rfl
theorem inf66 : (Tryd.prog.info? 66).map (fun i => (i.zero, i.size, i.bytes)) = some (some (.agg #[(.int .i64 0), (.string ⟨#[]⟩), (.int .i64 0), (.int .i64 0), (.slice none 0 0), (.slice none 0 0), (.int .i64 0), (.int .i64 0), (.slice none 0 0), (.int .i64 0), (.slice none 0 0)]), 11, 160) := by kernel_rfl
theorem inf67 : (Tryd.prog.info? 67).map (fun i => (i.zero, i.size, i.bytes)) = some (some (.agg #[(.int .i64 0), (.string ⟨#[]⟩), (.int .i64 0), (.int .i64 0), (.slice none 0 0), (.slice none 0 0), (.int .i64 0), (.int .i64 0), (.slice none 0 0), (.int .i64 0), (.slice none 0 0)]), 11, 160) := by kernel_rfl
theorem inf68 : (Tryd.prog.info? 68).map (fun i => (i.zero, i.size, i.bytes)) = some (some (.tuple #[(.agg #[(.int .i64 0), (.string ⟨#[]⟩), (.int .i64 0), (.int .i64 0), (.slice none 0 0), (.slice none 0 0), (.int .i64 0), (.int .i64 0), (.slice none 0 0), (.int .i64 0), (.slice none 0 0)]), (.bool false)]), 1, 0) := by kernel_rfl
theorem inf69 : (Tryd.prog.info? 69).map (fun i => (i.zero, i.size, i.bytes)) = some (some (.agg #[(.string ⟨#[]⟩), (.int .i64 0), (.int .i64 0), (.int .i64 0), (.int .i64 0), (.int .i64 0)]), 6, 56) := by kernel_rfl
theorem inf70 : (Tryd.prog.info? 70).map (fun i => (i.zero, i.size, i.bytes)) = some (some (.agg #[(.string ⟨#[]⟩), (.int .i64 0), (.int .i64 0), (.int .i64 0), (.int .i64 0), (.int .i64 0)]), 6, 56) := by kernel_rfl
theorem inf71 : (Tryd.prog.info? 71).map (fun i => (i.zero, i.size, i.bytes)) = some (some (.agg #[(.string ⟨#[]⟩), (.int .i64 0), (.int .i64 0), (.int .i64 0), (.int .i64 0), (.int .i64 0)]), 6, 56) := by kernel_rfl
theorem inf72 : (Tryd.prog.info? 72).map (fun i => (i.zero, i.size, i.bytes)) = some (some (.agg #[(.string ⟨#[]⟩), (.int .i64 0), (.int .i64 0), (.int .i64 0), (.int .i64 0), (.int .i64 0)]), 6, 56) := by kernel_rfl
theorem inf73 : (Tryd.prog.info? 73).map (fun i => (i.zero, i.size, i.bytes)) = some (some (.agg #[(.string ⟨#[]⟩)]), 1, 16) := by kernel_rfl
theorem inf74 : (Tryd.prog.info? 74).map (fun i => (i.zero, i.size, i.bytes)) = some (some (.agg #[(.int .i64 0)]), 1, 8) := by kernel_rfl
theorem inf75 : (Tryd.prog.info? 75).map (fun i => (i.zero, i.size, i.bytes)) = some (some (.agg #[(.int .i64 0)]), 1, 8) := by kernel_rfl
theorem inf76 : (Tryd.prog.info? 76).map (fun i => (i.zero, i.size, i.bytes)) = some (some (.agg #[(.int .i64 0), (.slice none 0 0)]), 2, 32) := by kernel_rfl
theorem inf77 : (Tryd.prog.info? 77).map (fun i => (i.zero, i.size, i.bytes)) = some (some (.agg #[(.int .i64 0), (.slice none 0 0)]), 2, 32) := by kernel_rfl
theorem inf78 : (Tryd.prog.info? 78).map (fun i => (i.zero, i.size, i.bytes)) = some (some (.agg #[(.int .i64 0)]), 1, 8) := by kernel_rfl
theorem inf79 : (Tryd.prog.info? 79).map (fun i => (i.zero, i.size, i.bytes)) = some (some (.agg #[(.int .i64 0), (.string ⟨#[]⟩)]), 2, 24) := by kernel_rfl
theorem inf80 : (Tryd.prog.info? 80).map (fun i => (i.zero, i.size, i.bytes)) = some (some (.agg #[(.int .i64 0), (.string ⟨#[]⟩)]), 2, 24) := by kernel_rfl
theorem inf81 : (Tryd.prog.info? 81).map (fun i => (i.zero, i.size, i.bytes)) = some (some (.agg #[(.int .i64 0), (.int .i64 0)]), 2, 16) := by kernel_rfl
theorem inf82 : (Tryd.prog.info? 82).map (fun i => (i.zero, i.size, i.bytes)) = some (some (.agg #[(.int .i64 0), (.int .i64 0)]), 2, 16) := by kernel_rfl
theorem inf83 : (Tryd.prog.info? 83).map (fun i => (i.zero, i.size, i.bytes)) = some (some .nilFunc, 1, 8) := by kernel_rfl
theorem inf84 : (Tryd.prog.info? 84).map (fun i => (i.zero, i.size, i.bytes)) = some (some .nilFunc, 1, 8) := by kernel_rfl
theorem inf85 : (Tryd.prog.info? 85).map (fun i => (i.zero, i.size, i.bytes)) = some (some .nilFunc, 1, 8) := by kernel_rfl
theorem inf86 : (Tryd.prog.info? 86).map (fun i => (i.zero, i.size, i.bytes)) = some (some .nilFunc, 1, 8) := by kernel_rfl
theorem inf87 : (Tryd.prog.info? 87).map (fun i => (i.zero, i.size, i.bytes)) = some (some (.int .u32 0), 1, 4) := by kernel_rfl
theorem inf88 : (Tryd.prog.info? 88).map (fun i => (i.zero, i.size, i.bytes)) = some (some .nilFunc, 1, 8) := by kernel_rfl
theorem inf89 : (Tryd.prog.info? 89).map (fun i => (i.zero, i.size, i.bytes)) = some (some .nilFunc, 1, 8) := by kernel_rfl
theorem inf90 : (Tryd.prog.info? 90).map (fun i => (i.zero, i.size, i.bytes)) = some (some .nilFunc, 1, 8) := by kernel_rfl
theorem inf91 : (Tryd.prog.info? 91).map (fun i => (i.zero, i.size, i.bytes)) = some (some (.int .u64 0), 1, 8) := by kernel_rfl
theorem inf92 : (Tryd.prog.info? 92).map (fun i => (i.zero, i.size, i.bytes)) = some (some (.int .i8 0), 1, 1) := by kernel_rfl
theorem inf93 : (Tryd.prog.info? 93).map (fun i => (i.zero, i.size, i.bytes)) = some (some (.int .i8 0), 1, 1) := by kernel_rfl
theorem inf94 : (Tryd.prog.info? 94).map (fun i => (i.zero, i.size, i.bytes)) = some (some (.agg #[(.slice none 0 0), (.int .i64 0), (.int .i8 0)]), 3, 40) := by kernel_rfl
theorem inf95 : (Tryd.prog.info? 95).map (fun i => (i.zero, i.size, i.bytes)) = some (some (.agg #[(.slice none 0 0), (.int .i64 0), (.int .i8 0)]), 3, 40) := by kernel_rfl
theorem inf96 : (Tryd.prog.info? 96).map (fun i => (i.zero, i.size, i.bytes)) = some (some (.agg #[(.slice none 0 0), (.int .i64 0), (.int .i8 0)]), 3, 40) := by kernel_rfl
theorem inf97 : (Tryd.prog.info? 97).map (fun i => (i.zero, i.size, i.bytes)) = some (some (.agg #[(.slice none 0 0), (.int .i64 0), (.int .i8 0)]), 3, 40) := by kernel_rfl
theorem inf98 : (Tryd.prog.info? 98).map (fun i => (i.zero, i.size, i.bytes)) = some (some .nilIface, 1, 16) := by kernel_rfl
theorem inf99 : (Tryd.prog.info? 99).map (fun i => (i.zero, i.size, i.bytes)) = some (some .nilIface, 1, 16) := by kernel_rfl
theorem inf100 : (Tryd.prog.info? 100).map (fun i => (i.zero, i.size, i.bytes)) = some (some .nilFunc, 1, 8) := by kernel_rfl
theorem inf101 : (Tryd.prog.info? 101).map (fun i => (i.zero, i.size, i.bytes)) = some (some .nilFunc, 1, 8) := by kernel_rfl
theorem inf102 : (Tryd.prog.info? 102).map (fun i => (i.zero, i.size, i.bytes)) = some (some .nilFunc, 1, 8) := by kernel_rfl
theorem inf103 : (Tryd.prog.info? 103).map (fun i => (i.zero, i.size, i.bytes)) = some (some .nilFunc, 1, 8) := by kernel_rfl
theorem inf104 : (Tryd.prog.info? 104).map (fun i => (i.zero, i.size, i.bytes)) = some (some .nilFunc, 1, 8) := by kernel_rfl
theorem inf105 : (Tryd.prog.info? 105).map (fun i => (i.zero, i.size, i.bytes)) = some (some .nilFunc, 1, 8) := by kernel_rfl
theorem inf106 : (Tryd.prog.info? 106).map (fun i => (i.zero, i.size, i.bytes)) = some (some .nilFunc, 1, 8) := by kernel_rfl
theorem inf107 : (Tryd.prog.info? 107).map (fun i => (i.zero, i.size, i.bytes)) = some (some .nilFunc, 1, 8) := by kernel_rfl
theorem inf108 : (Tryd.prog.info? 108).map (fun i => (i.zero, i.size, i.bytes)) = some (some .nilFunc, 1, 8) := by kernel_rfl
theorem inf109 : (Tryd.prog.info? 109).map (fun i => (i.zero, i.size, i.bytes)) = some (some .nilFunc, 1, 8) := by kernel_rfl
theorem inf110 : (Tryd.prog.info? 110).map (fun i => (i.zero, i.size, i.bytes)) = some (some .nilFunc, 1, 8) := by kernel_rfl
theorem inf111 : (Tryd.prog.info? 111).map (fun i => (i.zero, i.size, i.bytes)) = some (some .nilFunc, 1, 8) := by kernel_rfl
theorem inf112 : (Tryd.prog.info? 112).map (fun i => (i.zero, i.size, i.bytes)) = some (some .nilFunc, 1, 8) := by kernel_rfl
theorem inf113 : (Tryd.prog.info? 113).map (fun i => (i.zero, i.size, i.bytes)) = some (some .nilFunc, 1, 8) := by kernel_rfl
theorem inf114 : (Tryd.prog.info? 114).map (fun i => (i.zero, i.size, i.bytes)) = some (some .nilFunc, 1, 8) := by kernel_rfl
theorem inf115 : (Tryd.prog.info? 115).map (fun i => (i.zero, i.size, i.bytes)) = some (some .nilFunc, 1, 8) := by kernel_rfl
theorem inf116 : (Tryd.prog.info? 116).map (fun i => (i.zero, i.size, i.bytes)) = some (some (.agg #[(.slice none 0 0), (.bool false)]), 2, 32) := by kernel_rfl
theorem inf117 : (Tryd.prog.info? 117).map (fun i => (i.zero, i.size, i.bytes)) = some (some (.agg #[(.slice none 0 0), (.bool false)]), 2, 32) := by kernel_rfl
theorem inf118 : (Tryd.prog.info? 118).map (fun i => (i.zero, i.size, i.bytes)) = some (some .nilFunc, 1, 8) := by kernel_rfl
theorem inf119 : (Tryd.prog.info? 119).map (fun i => (i.zero, i.size, i.bytes)) = some (some (.pointer none), 1, 8) := by kernel_rfl
theorem inf120 : (Tryd.prog.info? 120).map (fun i => (i.zero, i.size, i.bytes)) = some (some (.agg #[(.slice none 0 0), (.int .i64 0), (.bool false)]), 3, 40) := by kernel_rfl
theorem inf121 : (Tryd.prog.info? 121).map (fun i => (i.zero, i.size, i.bytes)) = some (some (.agg #[(.slice none 0 0), (.int .i64 0), (.bool false)]), 3, 40) := by kernel_rfl
theorem inf122 : (Tryd.prog.info? 122).map (fun i => (i.zero, i.size, i.bytes)) = some (some .nilFunc, 1, 8) := by kernel_rfl
theorem inf123 : (Tryd.prog.info? 123).map (fun i => (i.zero, i.size, i.bytes)) = some (some (.slice none 0 0), 1, 24) := by kernel_rfl
theorem inf124 : (Tryd.prog.info? 124).map (fun i => (i.zero, i.size, i.bytes)) = some (some (.pointer none), 1, 8) := by kernel_rfl
theorem inf125 : (Tryd.prog.info? 125).map (fun i => (i.zero, i.size, i.bytes)) = some (some (.tuple #[(.int .i64 0), (.bool false)]), 1, 0) := by kernel_rfl
theorem inf126 : (Tryd.prog.info? 126).map (fun i => (i.zero, i.size, i.bytes)) = some (some .nilFunc, 1, 8) := by kernel_rfl
theorem inf127 : (Tryd.prog.info? 127).map (fun i => (i.zero, i.size, i.bytes)) = some (some .nilFunc, 1, 8) := by kernel_rfl
theorem inf128 : (Tryd.prog.info? 128).map (fun i => (i.zero, i.size, i.bytes)) = some (some (.pointer none), 1, 8) := by kernel_rfl
theorem inf129 : (Tryd.prog.info? 129).map (fun i => (i.zero, i.size, i.bytes)) = some (some (.tuple #[(.int .i64 0), .nilIface]), 1, 0) := by kernel_rfl
theorem inf130 : (Tryd.prog.info? 130).map (fun i => (i.zero, i.size, i.bytes)) = some (some .nilFunc, 1, 8) := by kernel_rfl
theorem inf131 : (Tryd.prog.info? 131).map (fun i => (i.zero, i.size, i.bytes)) = some (some .nilFunc, 1, 8) := by kernel_rfl
theorem inf132 : (Tryd.prog.info? 132).map (fun i => (i.zero, i.size, i.bytes)) = some (some .nilFunc, 1, 8) := by kernel_rfl
theorem inf133 : (Tryd.prog.info? 133).map (fun i => (i.zero, i.size, i.bytes)) = some (some (.int .u64 0), 1, 8) := by kernel_rfl
theorem inf134 : (Tryd.prog.info? 134).map (fun i => (i.zero, i.size, i.bytes)) = some (some (.tuple #[(.int .i64 0), (.int .i64 0), (.int .i64 0)]), 1, 0) := by kernel_rfl
theorem inf135 : (Tryd.prog.info? 135).map (fun i => (i.zero, i.size, i.bytes)) = some (some .nilFunc, 1, 8) := by kernel_rfl
theorem inf136 : (Tryd.prog.info? 136).map (fun i => (i.zero, i.size, i.bytes)) = some (some (.tuple #[(.int .i64 0), (.int .i64 0)]), 1, 0) := by kernel_rfl
theorem inf137 : (Tryd.prog.info? 137).map (fun i => (i.zero, i.size, i.bytes)) = some (some .nilFunc, 1, 8) := by kernel_rfl
theorem inf138 : (Tryd.prog.info? 138).map (fun i => (i.zero, i.size, i.bytes)) = some (some (.pointer none), 1, 8) := by kernel_rfl
theorem inf139 : (Tryd.prog.info? 139).map (fun i => (i.zero, i.size, i.bytes)) = some (some .nilFunc, 1, 8) := by kernel_rfl
theorem inf140 : (Tryd.prog.info? 140).map (fun i => (i.zero, i.size, i.bytes)) = some (some .nilFunc, 1, 8) := by kernel_rfl
theorem inf141 : (Tryd.prog.info? 141).map (fun i => (i.zero, i.size, i.bytes)) = some (some .nilFunc, 1, 8) := by kernel_rfl
theorem inf142 : (Tryd.prog.info? 142).map (fun i => (i.zero, i.size, i.bytes)) = some (some .nilFunc, 1, 8) := by kernel_rfl
theorem inf143 : (Tryd.prog.info? 143).map (fun i => (i.zero, i.size, i.bytes)) = some (some .nilFunc, 1, 8) := by kernel_rfl
theorem inf144 : (Tryd.prog.info? 144).map (fun i => (i.zero, i.size, i.bytes)) = some (some .nilFunc, 1, 8) := by kernel_rfl
theorem inf145 : (Tryd.prog.info? 145).map (fun i => (i.zero, i.size, i.bytes)) = some (some (.tuple #[(.int .u64 0), (.int .i64 0)]), 1, 0) := by kernel_rfl
theorem inf146 : (Tryd.prog.info? 146).map (fun i => (i.zero, i.size, i.bytes)) = some (some .nilFunc, 1, 8) := by kernel_rfl
theorem inf147 : (Tryd.prog.info? 147).map (fun i => (i.zero, i.size, i.bytes)) = some (some (.pointer none), 1, 8) := by kernel_rfl
theorem inf148 : (Tryd.prog.info? 148).map (fun i => (i.zero, i.size, i.bytes)) = some (some (.agg #[(.pointer none), (.pointer none), (.pointer none), (.string ⟨#[]⟩)]), 4, 40) := by kernel_rfl
theorem inf149 : (Tryd.prog.info? 149).map (fun i => (i.zero, i.size, i.bytes)) = some (some (.agg #[(.pointer none), (.pointer none), (.pointer none), (.string ⟨#[]⟩)]), 4, 40) := by kernel_rfl
theorem inf150 : (Tryd.prog.info? 150).map (fun i => (i.zero, i.size, i.bytes)) = some (some (.agg #[]), 0, 0) := by kernel_rfl
theorem inf151 : (Tryd.prog.info? 151).map (fun i => (i.zero, i.size, i.bytes)) = some (some (.agg #[]), 0, 0) := by kernel_rfl
theorem inf152 : (Tryd.prog.info? 152).map (fun i => (i.zero, i.size, i.bytes)) = some (some (.agg #[]), 0, 0) := by kernel_rfl
theorem inf153 : (Tryd.prog.info? 153).map (fun i => (i.zero, i.size, i.bytes)) = some (some .nilFunc, 1, 8) := by kernel_rfl
theorem inf154 : (Tryd.prog.info? 154).map (fun i => (i.zero, i.size, i.bytes)) = some (some (.int .u8 0), 1, 1) := by kernel_rfl
theorem inf155 : (Tryd.prog.info? 155).map (fun i => (i.zero, i.size, i.bytes)) = some (some (.int .u8 0), 1, 1) := by kernel_rfl
theorem inf156 : (Tryd.prog.info? 156).map (fun i => (i.zero, i.size, i.bytes)) = some (some .nilFunc, 1, 8) := by kernel_rfl
theorem inf157 : (Tryd.prog.info? 157).map (fun i => (i.zero, i.size, i.bytes)) = some (some (.pointer none), 1, 8) := by kernel_rfl
theorem inf158 : (Tryd.prog.info? 158).map (fun i => (i.zero, i.size, i.bytes)) = some (some (.int .i32 0), 1, 4) := by kernel_rfl
theorem inf159 : (Tryd.prog.info? 159).map (fun i => (i.zero, i.size, i.bytes)) = some (some (.int .i32 0), 1, 4) := by kernel_rfl
theorem inf160 : (Tryd.prog.info? 160).map (fun i => (i.zero, i.size, i.bytes)) = some (some (.agg #[(.int .u64 0), (.int .u64 0), (.int .u32 0), (.int .u8 0), (.int .u8 0), (.int .u8 0), (.int .u8 0), .nilFunc, (.pointer none), (.int .i32 0), (.int .i32 0)]), 11, 48) := by kernel_rfl
theorem inf161 : (Tryd.prog.info? 161).map (fun i => (i.zero, i.size, i.bytes)) = some (some (.agg #[(.int .u64 0), (.int .u64 0), (.int .u32 0), (.int .u8 0), (.int .u8 0), (.int .u8 0), (.int .u8 0), .nilFunc, (.pointer none), (.int .i32 0), (.int .i32 0)]), 11, 48) := by kernel_rfl
theorem inf162 : (Tryd.prog.info? 162).map (fun i => (i.zero, i.size, i.bytes)) = some (some (.agg #[(.string ⟨#[]⟩)]), 1, 16) := by kernel_rfl
theorem inf163 : (Tryd.prog.info? 163).map (fun i => (i.zero, i.size, i.bytes)) = some (some (.agg #[(.string ⟨#[]⟩)]), 1, 16) := by kernel_rfl
theorem inf164 : (Tryd.prog.info? 164).map (fun i => (i.zero, i.size, i.bytes)) = some (some (.pointer none), 1, 8) := by kernel_rfl
theorem inf165 : (Tryd.prog.info? 165).map (fun i => (i.zero, i.size, i.bytes)) = some (some .nilFunc, 1, 8) := by kernel_rfl
set_option maxHeartbeats 4000000 in
theorem inf_ok : ∀ t z s b, inf t = some (z, s, b) → ∃ i, Tryd.prog.info? t = some i ∧ i.zero = some z ∧ i.size = s ∧ i.bytes = b := by
  intro t z s b h
  unfold inf at h
  split at h
  · cases h; exact inf_mk inf0
  · cases h; exact inf_mk inf1
  · cases h; exact inf_mk inf2
  · cases h; exact inf_mk inf3
  · cases h; exact inf_mk inf4
  · cases h; exact inf_mk inf5
  · cases h; exact inf_mk inf6
  · cases h; exact inf_mk inf7
  · cases h; exact inf_mk inf8
  · cases h; exact inf_mk inf9
  · cases h; exact inf_mk inf10
  · cases h; exact inf_mk inf11
  · cases h; exact inf_mk inf12
  · cases h; exact inf_mk inf13
  · cases h; exact inf_mk inf14
  · cases h; exact inf_mk inf15
  · cases h; exact inf_mk inf16
  · cases h; exact inf_mk inf17
  · cases h; exact inf_mk inf18
  · cases h; exact inf_mk inf19
  · cases h; exact inf_mk inf20
  · cases h; exact inf_mk inf21
  · cases h; exact inf_mk inf22
  · cases h; exact inf_mk inf23
  · cases h; exact inf_mk inf24
  · cases h; exact inf_mk inf25
  · cases h; exact inf_mk inf26
  · cases h; exact inf_mk inf27
  · cases h; exact inf_mk inf28
  · cases h; exact inf_mk inf29
  · cases h; exact inf_mk inf30
  · cases h; exact inf_mk inf31
  · cases h; exact inf_mk inf32
  · cases h; exact inf_mk inf33
  · cases h; exact inf_mk inf34
  · cases h; exact inf_mk inf35
  · cases h; exact inf_mk inf36
  · cases h; exact inf_mk inf37
  · cases h; exact inf_mk inf38
  · cases h; exact inf_mk inf39
  · cases h; exact inf_mk inf40
  · cases h; exact inf_mk inf41
  · cases h; exact inf_mk inf42
  · cases h; exact inf_mk inf43
  · cases h; exact inf_mk inf44
  · cases h; exact inf_mk inf45
  · cases h; exact inf_mk inf46
  · cases h; exact inf_mk inf47
  · cases h; exact inf_mk inf48
  · cases h; exact inf_mk inf49
  · cases h; exact inf_mk inf50
  · cases h; exact inf_mk inf51
  · cases h; exact inf_mk inf52
  · cases h; exact inf_mk inf53
  · cases h; exact inf_mk inf54
  · cases h; exact inf_mk inf55
  · cases h; exact inf_mk inf56
  · cases h; exact inf_mk inf57
  · cases h; exact inf_mk inf58
  · cases h; exact inf_mk inf59
  · cases h; exact inf_mk inf60
  · cases h; exact inf_mk inf61
  · cases h; exact inf_mk inf62
  · cases h; exact inf_mk inf63
  · cases h; exact inf_mk inf64
  · cases h; exact inf_mk inf65
  · cases h; exact inf_mk inf66
  · cases h; exact inf_mk inf67
  · cases h; exact inf_mk inf68
  · cases h; exact inf_mk inf69
  · cases h; exact inf_mk inf70
  · cases h; exact inf_mk inf71
  · cases h; exact inf_mk inf72
  · cases h; exact inf_mk inf73
  · cases h; exact inf_mk inf74
  · cases h; exact inf_mk inf75
  · cases h; exact inf_mk inf76
  · cases h; exact inf_mk inf77
  · cases h; exact inf_mk inf78
  · cases h; exact inf_mk inf79
  · cases h; exact inf_mk inf80
  · cases h; exact inf_mk inf81
  · cases h; exact inf_mk inf82
  · cases h; exact inf_mk inf83
  · cases h; exact inf_mk inf84
  · cases h; exact inf_mk inf85
  · cases h; exact inf_mk inf86
  · cases h; exact inf_mk inf87
  · cases h; exact inf_mk inf88
  · cases h; exact inf_mk inf89
  · cases h; exact inf_mk inf90
  · cases h; exact inf_mk inf91
  · cases h; exact inf_mk inf92
  · cases h; exact inf_mk inf93
  · cases h; exact inf_mk inf94
  · cases h; exact inf_mk inf95
  · cases h; exact inf_mk inf96
  · cases h; exact inf_mk inf97
  · cases h; exact inf_mk inf98
  · cases h; exact inf_mk inf99
  · cases h; exact inf_mk inf100
  · cases h; exact inf_mk inf101
  · cases h; exact inf_mk inf102
  · cases h; exact inf_mk inf103
  · cases h; exact inf_mk inf104
  · cases h; exact inf_mk inf105
  · cases h; exact inf_mk inf106
  · cases h; exact inf_mk inf107
  · cases h; exact inf_mk inf108
  · cases h; exact inf_mk inf109
  · cases h; exact inf_mk inf110
  · cases h; exact inf_mk inf111
  · cases h; exact inf_mk inf112
  · cases h; exact inf_mk inf113
  · cases h; exact inf_mk inf114
  · cases h; exact inf_mk inf115
  · cases h; exact inf_mk inf116
  · cases h; exact inf_mk inf117
  · cases h; exact inf_mk inf118
  · cases h; exact inf_mk inf119
  · cases h; exact inf_mk inf120
  · cases h; exact inf_mk inf121
  · cases h; exact inf_mk inf122
  · cases h; exact inf_mk inf123
  · cases h; exact inf_mk inf124
  · cases h; exact inf_mk inf125
  · cases h; exact inf_mk inf126
  · cases h; exact inf_mk inf127
  · cases h; exact inf_mk inf128
  · cases h; exact inf_mk inf129
  · cases h; exact inf_mk inf130
  · cases h; exact inf_mk inf131
  · cases h; exact inf_mk inf132
  · cases h; exact inf_mk inf133
  · cases h; exact inf_mk inf134
  · cases h; exact inf_mk inf135
  · cases h; exact inf_mk inf136
  · cases h; exact inf_mk inf137
  · cases h; exact inf_mk inf138
  · cases h; exact inf_mk inf139
  · cases h; exact inf_mk inf140
  · cases h; exact inf_mk inf141
  · cases h; exact inf_mk inf142
  · cases h; exact inf_mk inf143
  · cases h; exact inf_mk inf144
  · cases h; exact inf_mk inf145
  · cases h; exact inf_mk inf146
  · cases h; exact inf_mk inf147
  · cases h; exact inf_mk inf148
  · cases h; exact inf_mk inf149
  · cases h; exact inf_mk inf150
  · cases h; exact inf_mk inf151
  · cases h; exact inf_mk inf152
  · cases h; exact inf_mk inf153
  · cases h; exact inf_mk inf154
  · cases h; exact inf_mk inf155
  · cases h; exact inf_mk inf156
  · cases h; exact inf_mk inf157
  · cases h; exact inf_mk inf158
  · cases h; exact inf_mk inf159
  · cases h; exact inf_mk inf160
  · cases h; exact inf_mk inf161
  · cases h; exact inf_mk inf162
  · cases h; exact inf_mk inf163
  · cases h; exact inf_mk inf164
  · cases h; exact inf_mk inf165
  · cases h
theorem mixed : Tryd.prog.follows .mixedOrders = true := by kernel_rfl
noncomputable instance tab : Tab Tryd.prog := { und := und, und_ok := und_ok, mixed := mixed, inf := inf, inf_ok := inf_ok }
theorem callOk {f : FuncId} {fn : Func} (h : Tryd.prog.funcs[f]? = some fn) (hn : (fn.name == "runtime.NumGoroutine") = false) (hb : fn.body.isNone = false) : CallOk Tryd.prog f := fun args w => by
  unfold callFunc
  rw [Sem.run_bind, run_program]
  simp only [Result.andThen_ok, h]
  rw [if_neg (by rw [hn]; simp), if_neg (by rw [hb]; simp)]
  rfl
noncomputable def c2 : Code := Tryd.f2.body.getD .skip
noncomputable def c3 : Code := Tryd.f3.body.getD .skip
noncomputable def c4 : Code := Tryd.f4.body.getD .skip
noncomputable def c5 : Code := Tryd.f5.body.getD .skip
noncomputable def c6 : Code := Tryd.f6.body.getD .skip
noncomputable def c7 : Code := Tryd.f7.body.getD .skip
noncomputable def c8 : Code := Tryd.f8.body.getD .skip
theorem fn8 : FnOk Tryd.prog 8 36 [ResultVar.tmp 2] c8 := ⟨⟨Tryd.f8, Tryd.func8, rfl, Tryd.ntmps8, rfl, callOk Tryd.func8 (by kernel_rfl) rfl⟩⟩
noncomputable def c9 : Code := Tryd.f9.body.getD .skip
noncomputable def c10 : Code := Tryd.f10.body.getD .skip
theorem fn10 : FnOk Tryd.prog 10 21 [ResultVar.tmp 0] c10 := ⟨⟨Tryd.f10, Tryd.func10, rfl, Tryd.ntmps10, rfl, callOk Tryd.func10 (by kernel_rfl) rfl⟩⟩
noncomputable def c11 : Code := Tryd.f11.body.getD .skip
noncomputable def c12 : Code := Tryd.f12.body.getD .skip
noncomputable def c13 : Code := Tryd.f13.body.getD .skip
theorem fn13 : FnOk Tryd.prog 13 78 [ResultVar.tmp 4] c13 := ⟨⟨Tryd.f13, Tryd.func13, rfl, Tryd.ntmps13, rfl, callOk Tryd.func13 (by kernel_rfl) rfl⟩⟩
noncomputable def c14 : Code := Tryd.f14.body.getD .skip
noncomputable def c15 : Code := Tryd.f15.body.getD .skip
noncomputable def c18 : Code := Tryd.f18.body.getD .skip
theorem fn18 : FnOk Tryd.prog 18 26 [ResultVar.tmp 4] c18 := ⟨⟨Tryd.f18, Tryd.func18, rfl, Tryd.ntmps18, rfl, callOk Tryd.func18 (by kernel_rfl) rfl⟩⟩
noncomputable def c19 : Code := Tryd.f19.body.getD .skip
theorem fn19 : FnOk Tryd.prog 19 90 [ResultVar.cell 2 32] c19 := ⟨⟨Tryd.f19, Tryd.func19, rfl, Tryd.ntmps19, rfl, callOk Tryd.func19 (by kernel_rfl) rfl⟩⟩
noncomputable def c20 : Code := Tryd.f20.body.getD .skip
theorem fn20 : FnOk Tryd.prog 20 169 [ResultVar.tmp 2, ResultVar.tmp 3] c20 := ⟨⟨Tryd.f20, Tryd.func20, rfl, Tryd.ntmps20, rfl, callOk Tryd.func20 (by kernel_rfl) rfl⟩⟩
noncomputable def c22 : Code := Tryd.f22.body.getD .skip
theorem fn22 : FnOk Tryd.prog 22 149 [ResultVar.tmp 2] c22 := ⟨⟨Tryd.f22, Tryd.func22, rfl, Tryd.ntmps22, rfl, callOk Tryd.func22 (by kernel_rfl) rfl⟩⟩
noncomputable def c23 : Code := Tryd.f23.body.getD .skip
theorem fn23 : FnOk Tryd.prog 23 97 [ResultVar.tmp 2] c23 := ⟨⟨Tryd.f23, Tryd.func23, rfl, Tryd.ntmps23, rfl, callOk Tryd.func23 (by kernel_rfl) rfl⟩⟩
noncomputable def c24 : Code := Tryd.f24.body.getD .skip
theorem fn24 : FnOk Tryd.prog 24 40 [ResultVar.tmp 2, ResultVar.tmp 3] c24 := ⟨⟨Tryd.f24, Tryd.func24, rfl, Tryd.ntmps24, rfl, callOk Tryd.func24 (by kernel_rfl) rfl⟩⟩
noncomputable def c25 : Code := Tryd.f25.body.getD .skip
theorem fn25 : FnOk Tryd.prog 25 51 [ResultVar.cell 2 32, ResultVar.tmp 3] c25 := ⟨⟨Tryd.f25, Tryd.func25, rfl, Tryd.ntmps25, rfl, callOk Tryd.func25 (by kernel_rfl) rfl⟩⟩
noncomputable def c26 : Code := Tryd.f26.body.getD .skip
theorem fn26 : FnOk Tryd.prog 26 64 [ResultVar.tmp 4] c26 := ⟨⟨Tryd.f26, Tryd.func26, rfl, Tryd.ntmps26, rfl, callOk Tryd.func26 (by kernel_rfl) rfl⟩⟩
noncomputable def c27 : Code := Tryd.f27.body.getD .skip
theorem fn27 : FnOk Tryd.prog 27 26 [ResultVar.tmp 4] c27 := ⟨⟨Tryd.f27, Tryd.func27, rfl, Tryd.ntmps27, rfl, callOk Tryd.func27 (by kernel_rfl) rfl⟩⟩
noncomputable def c28 : Code := Tryd.f28.body.getD .skip
theorem fn28 : FnOk Tryd.prog 28 26 [ResultVar.tmp 4] c28 := ⟨⟨Tryd.f28, Tryd.func28, rfl, Tryd.ntmps28, rfl, callOk Tryd.func28 (by kernel_rfl) rfl⟩⟩
noncomputable def c29 : Code := Tryd.f29.body.getD .skip
theorem fn29 : FnOk Tryd.prog 29 26 [ResultVar.tmp 4] c29 := ⟨⟨Tryd.f29, Tryd.func29, rfl, Tryd.ntmps29, rfl, callOk Tryd.func29 (by kernel_rfl) rfl⟩⟩
noncomputable def c36 : Code := Tryd.f36.body.getD .skip
theorem fn36 : FnOk Tryd.prog 36 26 [ResultVar.tmp 4] c36 := ⟨⟨Tryd.f36, Tryd.func36, rfl, Tryd.ntmps36, rfl, callOk Tryd.func36 (by kernel_rfl) rfl⟩⟩
noncomputable def c37 : Code := Tryd.f37.body.getD .skip
theorem fn37 : FnOk Tryd.prog 37 14 [] c37 := ⟨⟨Tryd.f37, Tryd.func37, rfl, Tryd.ntmps37, rfl, callOk Tryd.func37 (by kernel_rfl) rfl⟩⟩
noncomputable def c38 : Code := Tryd.f38.body.getD .skip
theorem fn38 : FnOk Tryd.prog 38 20 [] c38 := ⟨⟨Tryd.f38, Tryd.func38, rfl, Tryd.ntmps38, rfl, callOk Tryd.func38 (by kernel_rfl) rfl⟩⟩
noncomputable def c39 : Code := Tryd.f39.body.getD .skip
theorem fn39 : FnOk Tryd.prog 39 12 [ResultVar.tmp 2] c39 := ⟨⟨Tryd.f39, Tryd.func39, rfl, Tryd.ntmps39, rfl, callOk Tryd.func39 (by kernel_rfl) rfl⟩⟩
noncomputable def c44 : Code := Tryd.f44.body.getD .skip
theorem fn44 : FnOk Tryd.prog 44 15 [ResultVar.tmp 2] c44 := ⟨⟨Tryd.f44, Tryd.func44, rfl, Tryd.ntmps44, rfl, callOk Tryd.func44 (by kernel_rfl) rfl⟩⟩
noncomputable def c45 : Code := Tryd.f45.body.getD .skip
theorem fn45 : FnOk Tryd.prog 45 16 [ResultVar.tmp 2] c45 := ⟨⟨Tryd.f45, Tryd.func45, rfl, Tryd.ntmps45, rfl, callOk Tryd.func45 (by kernel_rfl) rfl⟩⟩
noncomputable def c46 : Code := Tryd.f46.body.getD .skip
theorem fn46 : FnOk Tryd.prog 46 119 [ResultVar.tmp 2] c46 := ⟨⟨Tryd.f46, Tryd.func46, rfl, Tryd.ntmps46, rfl, callOk Tryd.func46 (by kernel_rfl) rfl⟩⟩
noncomputable def c47 : Code := Tryd.f47.body.getD .skip
theorem fn47 : FnOk Tryd.prog 47 9 [ResultVar.tmp 2] c47 := ⟨⟨Tryd.f47, Tryd.func47, rfl, Tryd.ntmps47, rfl, callOk Tryd.func47 (by kernel_rfl) rfl⟩⟩
noncomputable def c48 : Code := Tryd.f48.body.getD .skip
theorem fn48 : FnOk Tryd.prog 48 21 [ResultVar.tmp 2] c48 := ⟨⟨Tryd.f48, Tryd.func48, rfl, Tryd.ntmps48, rfl, callOk Tryd.func48 (by kernel_rfl) rfl⟩⟩
noncomputable def c49 : Code := Tryd.f49.body.getD .skip
theorem fn49 : FnOk Tryd.prog 49 71 [ResultVar.tmp 2] c49 := ⟨⟨Tryd.f49, Tryd.func49, rfl, Tryd.ntmps49, rfl, callOk Tryd.func49 (by kernel_rfl) rfl⟩⟩
noncomputable def c50 : Code := Tryd.f50.body.getD .skip
theorem fn50 : FnOk Tryd.prog 50 18 [ResultVar.tmp 2] c50 := ⟨⟨Tryd.f50, Tryd.func50, rfl, Tryd.ntmps50, rfl, callOk Tryd.func50 (by kernel_rfl) rfl⟩⟩
noncomputable def c51 : Code := Tryd.f51.body.getD .skip
theorem fn51 : FnOk Tryd.prog 51 132 [ResultVar.tmp 2] c51 := ⟨⟨Tryd.f51, Tryd.func51, rfl, Tryd.ntmps51, rfl, callOk Tryd.func51 (by kernel_rfl) rfl⟩⟩
noncomputable def c52 : Code := Tryd.f52.body.getD .skip
theorem fn52 : FnOk Tryd.prog 52 9 [ResultVar.tmp 2] c52 := ⟨⟨Tryd.f52, Tryd.func52, rfl, Tryd.ntmps52, rfl, callOk Tryd.func52 (by kernel_rfl) rfl⟩⟩
noncomputable def c53 : Code := Tryd.f53.body.getD .skip
theorem fn53 : FnOk Tryd.prog 53 16 [ResultVar.tmp 2] c53 := ⟨⟨Tryd.f53, Tryd.func53, rfl, Tryd.ntmps53, rfl, callOk Tryd.func53 (by kernel_rfl) rfl⟩⟩
noncomputable def c54 : Code := Tryd.f54.body.getD .skip
theorem fn54 : FnOk Tryd.prog 54 82 [ResultVar.tmp 4] c54 := ⟨⟨Tryd.f54, Tryd.func54, rfl, Tryd.ntmps54, rfl, callOk Tryd.func54 (by kernel_rfl) rfl⟩⟩
noncomputable def c55 : Code := Tryd.f55.body.getD .skip
theorem fn55 : FnOk Tryd.prog 55 10 [ResultVar.tmp 4] c55 := ⟨⟨Tryd.f55, Tryd.func55, rfl, Tryd.ntmps55, rfl, callOk Tryd.func55 (by kernel_rfl) rfl⟩⟩
noncomputable def c56 : Code := Tryd.f56.body.getD .skip
theorem fn56 : FnOk Tryd.prog 56 100 [ResultVar.cell 4 32] c56 := ⟨⟨Tryd.f56, Tryd.func56, rfl, Tryd.ntmps56, rfl, callOk Tryd.func56 (by kernel_rfl) rfl⟩⟩
noncomputable def c57 : Code := Tryd.f57.body.getD .skip
theorem fn57 : FnOk Tryd.prog 57 33 [ResultVar.tmp 4, ResultVar.tmp 5] c57 := ⟨⟨Tryd.f57, Tryd.func57, rfl, Tryd.ntmps57, rfl, callOk Tryd.func57 (by kernel_rfl) rfl⟩⟩
noncomputable def c58 : Code := Tryd.f58.body.getD .skip
theorem fn58 : FnOk Tryd.prog 58 110 [ResultVar.tmp 4] c58 := ⟨⟨Tryd.f58, Tryd.func58, rfl, Tryd.ntmps58, rfl, callOk Tryd.func58 (by kernel_rfl) rfl⟩⟩
noncomputable def c59 : Code := Tryd.f59.body.getD .skip
theorem fn59 : FnOk Tryd.prog 59 32 [ResultVar.tmp 4, ResultVar.tmp 5] c59 := ⟨⟨Tryd.f59, Tryd.func59, rfl, Tryd.ntmps59, rfl, callOk Tryd.func59 (by kernel_rfl) rfl⟩⟩
noncomputable def c60 : Code := Tryd.f60.body.getD .skip
theorem fn60 : FnOk Tryd.prog 60 32 [ResultVar.tmp 4, ResultVar.tmp 5] c60 := ⟨⟨Tryd.f60, Tryd.func60, rfl, Tryd.ntmps60, rfl, callOk Tryd.func60 (by kernel_rfl) rfl⟩⟩
noncomputable def c61 : Code := Tryd.f61.body.getD .skip
theorem fn61 : FnOk Tryd.prog 61 20 [ResultVar.tmp 4] c61 := ⟨⟨Tryd.f61, Tryd.func61, rfl, Tryd.ntmps61, rfl, callOk Tryd.func61 (by kernel_rfl) rfl⟩⟩
noncomputable def c62 : Code := Tryd.f62.body.getD .skip
theorem fn62 : FnOk Tryd.prog 62 50 [ResultVar.tmp 2] c62 := ⟨⟨Tryd.f62, Tryd.func62, rfl, Tryd.ntmps62, rfl, callOk Tryd.func62 (by kernel_rfl) rfl⟩⟩
noncomputable def c63 : Code := Tryd.f63.body.getD .skip
theorem fn63 : FnOk Tryd.prog 63 35 [ResultVar.tmp 2, ResultVar.tmp 3, ResultVar.tmp 4] c63 := ⟨⟨Tryd.f63, Tryd.func63, rfl, Tryd.ntmps63, rfl, callOk Tryd.func63 (by kernel_rfl) rfl⟩⟩
noncomputable def c64 : Code := Tryd.f64.body.getD .skip
theorem fn64 : FnOk Tryd.prog 64 83 [ResultVar.tmp 4, ResultVar.tmp 5] c64 := ⟨⟨Tryd.f64, Tryd.func64, rfl, Tryd.ntmps64, rfl, callOk Tryd.func64 (by kernel_rfl) rfl⟩⟩
noncomputable def c65 : Code := Tryd.f65.body.getD .skip
theorem fn65 : FnOk Tryd.prog 65 34 [ResultVar.tmp 2] c65 := ⟨⟨Tryd.f65, Tryd.func65, rfl, Tryd.ntmps65, rfl, callOk Tryd.func65 (by kernel_rfl) rfl⟩⟩
noncomputable def c66 : Code := Tryd.f66.body.getD .skip
theorem fn66 : FnOk Tryd.prog 66 33 [ResultVar.tmp 2] c66 := ⟨⟨Tryd.f66, Tryd.func66, rfl, Tryd.ntmps66, rfl, callOk Tryd.func66 (by kernel_rfl) rfl⟩⟩
noncomputable def c67 : Code := Tryd.f67.body.getD .skip
theorem fn67 : FnOk Tryd.prog 67 14 [ResultVar.cell 2 23] c67 := ⟨⟨Tryd.f67, Tryd.func67, rfl, Tryd.ntmps67, rfl, callOk Tryd.func67 (by kernel_rfl) rfl⟩⟩
noncomputable def c68 : Code := Tryd.f68.body.getD .skip
theorem fn68 : FnOk Tryd.prog 68 38 [ResultVar.cell 2 30] c68 := ⟨⟨Tryd.f68, Tryd.func68, rfl, Tryd.ntmps68, rfl, callOk Tryd.func68 (by kernel_rfl) rfl⟩⟩
noncomputable def c69 : Code := Tryd.f69.body.getD .skip
theorem fn69 : FnOk Tryd.prog 69 20 [ResultVar.cell 2 77] c69 := ⟨⟨Tryd.f69, Tryd.func69, rfl, Tryd.ntmps69, rfl, callOk Tryd.func69 (by kernel_rfl) rfl⟩⟩
noncomputable def c70 : Code := Tryd.f70.body.getD .skip
theorem fn70 : FnOk Tryd.prog 70 53 [ResultVar.tmp 2] c70 := ⟨⟨Tryd.f70, Tryd.func70, rfl, Tryd.ntmps70, rfl, callOk Tryd.func70 (by kernel_rfl) rfl⟩⟩
noncomputable def c71 : Code := Tryd.f71.body.getD .skip
theorem fn71 : FnOk Tryd.prog 71 62 [ResultVar.tmp 2] c71 := ⟨⟨Tryd.f71, Tryd.func71, rfl, Tryd.ntmps71, rfl, callOk Tryd.func71 (by kernel_rfl) rfl⟩⟩
noncomputable def c72 : Code := Tryd.f72.body.getD .skip
theorem fn72 : FnOk Tryd.prog 72 14 [ResultVar.cell 2 23] c72 := ⟨⟨Tryd.f72, Tryd.func72, rfl, Tryd.ntmps72, rfl, callOk Tryd.func72 (by kernel_rfl) rfl⟩⟩
noncomputable def c73 : Code := Tryd.f73.body.getD .skip
theorem fn73 : FnOk Tryd.prog 73 70 [ResultVar.cell 2 30] c73 := ⟨⟨Tryd.f73, Tryd.func73, rfl, Tryd.ntmps73, rfl, callOk Tryd.func73 (by kernel_rfl) rfl⟩⟩
noncomputable def c74 : Code := Tryd.f74.body.getD .skip
theorem fn74 : FnOk Tryd.prog 74 13 [ResultVar.tmp 2] c74 := ⟨⟨Tryd.f74, Tryd.func74, rfl, Tryd.ntmps74, rfl, callOk Tryd.func74 (by kernel_rfl) rfl⟩⟩
noncomputable def c76 : Code := Tryd.f76.body.getD .skip
theorem fn76 : FnOk Tryd.prog 76 28 [ResultVar.tmp 4] c76 := ⟨⟨Tryd.f76, Tryd.func76, rfl, Tryd.ntmps76, rfl, callOk Tryd.func76 (by kernel_rfl) rfl⟩⟩
noncomputable def c77 : Code := Tryd.f77.body.getD .skip
theorem fn77 : FnOk Tryd.prog 77 39 [ResultVar.tmp 2, ResultVar.tmp 3] c77 := ⟨⟨Tryd.f77, Tryd.func77, rfl, Tryd.ntmps77, rfl, callOk Tryd.func77 (by kernel_rfl) rfl⟩⟩
noncomputable def c78 : Code := Tryd.f78.body.getD .skip
theorem fn78 : FnOk Tryd.prog 78 12 [ResultVar.tmp 2] c78 := ⟨⟨Tryd.f78, Tryd.func78, rfl, Tryd.ntmps78, rfl, callOk Tryd.func78 (by kernel_rfl) rfl⟩⟩
noncomputable def c96 : Code := Tryd.f96.body.getD .skip
theorem fn96 : FnOk Tryd.prog 96 3 [ResultVar.tmp 2] c96 := ⟨⟨Tryd.f96, Tryd.func96, rfl, Tryd.ntmps96, rfl, callOk Tryd.func96 (by kernel_rfl) rfl⟩⟩
noncomputable def c97 : Code := Tryd.f97.body.getD .skip
theorem fn97 : FnOk Tryd.prog 97 3 [ResultVar.tmp 2] c97 := ⟨⟨Tryd.f97, Tryd.func97, rfl, Tryd.ntmps97, rfl, callOk Tryd.func97 (by kernel_rfl) rfl⟩⟩
noncomputable def c98 : Code := Tryd.f98.body.getD .skip
theorem fn98 : FnOk Tryd.prog 98 3 [ResultVar.tmp 2] c98 := ⟨⟨Tryd.f98, Tryd.func98, rfl, Tryd.ntmps98, rfl, callOk Tryd.func98 (by kernel_rfl) rfl⟩⟩
noncomputable def c99 : Code := Tryd.f99.body.getD .skip
theorem fn99 : FnOk Tryd.prog 99 3 [ResultVar.tmp 2] c99 := ⟨⟨Tryd.f99, Tryd.func99, rfl, Tryd.ntmps99, rfl, callOk Tryd.func99 (by kernel_rfl) rfl⟩⟩
noncomputable def c100 : Code := Tryd.f100.body.getD .skip
theorem fn100 : FnOk Tryd.prog 100 3 [ResultVar.tmp 2] c100 := ⟨⟨Tryd.f100, Tryd.func100, rfl, Tryd.ntmps100, rfl, callOk Tryd.func100 (by kernel_rfl) rfl⟩⟩
noncomputable def c101 : Code := Tryd.f101.body.getD .skip
theorem fn101 : FnOk Tryd.prog 101 3 [ResultVar.tmp 2] c101 := ⟨⟨Tryd.f101, Tryd.func101, rfl, Tryd.ntmps101, rfl, callOk Tryd.func101 (by kernel_rfl) rfl⟩⟩
noncomputable def c102 : Code := Tryd.f102.body.getD .skip
theorem fn102 : FnOk Tryd.prog 102 3 [ResultVar.tmp 2] c102 := ⟨⟨Tryd.f102, Tryd.func102, rfl, Tryd.ntmps102, rfl, callOk Tryd.func102 (by kernel_rfl) rfl⟩⟩
noncomputable def c103 : Code := Tryd.f103.body.getD .skip
theorem fn103 : FnOk Tryd.prog 103 3 [ResultVar.tmp 2] c103 := ⟨⟨Tryd.f103, Tryd.func103, rfl, Tryd.ntmps103, rfl, callOk Tryd.func103 (by kernel_rfl) rfl⟩⟩
noncomputable def c104 : Code := Tryd.f104.body.getD .skip
theorem fn104 : FnOk Tryd.prog 104 3 [ResultVar.tmp 2] c104 := ⟨⟨Tryd.f104, Tryd.func104, rfl, Tryd.ntmps104, rfl, callOk Tryd.func104 (by kernel_rfl) rfl⟩⟩
noncomputable def c105 : Code := Tryd.f105.body.getD .skip
theorem fn105 : FnOk Tryd.prog 105 3 [ResultVar.tmp 2] c105 := ⟨⟨Tryd.f105, Tryd.func105, rfl, Tryd.ntmps105, rfl, callOk Tryd.func105 (by kernel_rfl) rfl⟩⟩
noncomputable def c106 : Code := Tryd.f106.body.getD .skip
theorem fn106 : FnOk Tryd.prog 106 3 [ResultVar.tmp 2] c106 := ⟨⟨Tryd.f106, Tryd.func106, rfl, Tryd.ntmps106, rfl, callOk Tryd.func106 (by kernel_rfl) rfl⟩⟩
end Go.Proofs.YtjmfnakplmmpnaaDoor

namespace Go.Proofs.YtjmfnakplmmpnaaDoor
open Go.Sl
set_option linter.unusedVariables false
set_option linter.unusedSimpArgs false
set_option maxRecDepth 100000
set_option maxHeartbeats 4000000
abbrev Bs := List UInt8
theorem okg {f n : Nat} {rs : List ResultVar} {c : Code} (h : FnOk Tryd.prog f n rs c) : CallOk Tryd.prog f := by obtain ⟨_, _, _, _, _, h⟩ := h.ex; exact h
abbrev BR (a : Option Addr) (n cap : Nat) (b : Bs) : As := ERow 5 1 encU a n cap b
theorem Ent.row {α : Type} {enc : α → List Value} {E : TypeId} {sz : Nat} {M N K : List As} {a : Option Addr} {n cap : Nat} {xs : List α} (tk : Take M (ERow E sz enc a n cap xs) N) (h : RowHd a n cap xs → Ent M K) : Ent M K := fun k s => h (RowHd.of tk s) k s
end Go.Proofs.YtjmfnakplmmpnaaDoor

namespace Go.Proofs.YtjmfnakplmmpnaaDoor
open Go.Sl
set_option linter.unusedVariables false
set_option linter.unusedSimpArgs false
def seven (n : Nat) : List UInt8 := if h : n < 128 then [UInt8.ofNat n] else UInt8.ofNat (n % 128 + 128) :: seven (n / 128)
termination_by n
decreasing_by omega
theorem seven_lt {n : Nat} (h : n < 128) : seven n = [UInt8.ofNat n] := by rw [seven, dif_pos h]
theorem seven_ge {n : Nat} (h : ¬ n < 128) : seven n = UInt8.ofNat (n % 128 + 128) :: seven (n / 128) := by rw [seven, dif_neg h]
theorem u8_ofNat {n : Nat} (h : n < 256) : (UInt8.ofNat n).toNat = n := by simp [UInt8.toNat_ofNat']; omega
def rdGo : Nat → Nat → List UInt8 → Nat × Nat
  | _, _, [] => (0, 0)
  | i, n, x :: l => if (i = 9 ∧ 1 < x.toNat) ∨ 9 < i then (0, 0) else if x.toNat < 128 then (n + x.toNat * 128 ^ i, i + 1) else rdGo (i + 1) (n + x.toNat % 128 * 128 ^ i) l
def rdS (b : List UInt8) : Nat × Nat := rdGo 0 0 b
theorem rdGo_seven (r : List UInt8) : ∀ (n i acc : Nat), n * 128 ^ i < 9223372036854775808 → i ≤ 8 → rdGo i acc (seven n ++ r) = (acc + n * 128 ^ i, i + (seven n).length) := by
  intro n
  induction n using Nat.strongRecOn with
  | _ n ih =>
    intro i acc h hi
    by_cases h1 : n < 128
    · rw [seven_lt h1]
      simp only [List.cons_append, List.nil_append, rdGo, List.length_singleton]
      rw [u8_ofNat (by omega), if_neg (by omega), if_pos h1]
    · rw [seven_ge h1]
      simp only [List.cons_append, rdGo, List.length_cons]
      rw [u8_ofNat (by omega), if_neg (by omega), if_neg (by omega)]
      have e1 : 128 ^ (i + 1) = 128 ^ i * 128 := Nat.pow_succ ..
      have e2 : n / 128 * 128 ^ (i + 1) ≤ n * 128 ^ i := by
        rw [e1, ← Nat.mul_assoc, Nat.mul_right_comm]
        exact Nat.mul_le_mul_right _ (Nat.div_mul_le_self n 128)
      have e3 : 1 ≤ n / 128 := by omega
      have e4 : 128 ^ (i + 1) ≤ n / 128 * 128 ^ (i + 1) := Nat.le_mul_of_pos_left _ e3
      have hi' : i + 1 ≤ 8 := by
        rcases Nat.lt_or_ge 8 (i + 1) with q | q
        · have : i = 8 := by omega
          subst this
          have e5 : (128 : Nat) ^ (8 + 1) = 9223372036854775808 := by decide
          omega
        · exact q
      rw [ih (n / 128) (by omega) (i + 1) _ (by omega) hi']
      have e6 : (n % 128 + 128) % 128 = n % 128 := by omega
      rw [e6]
      have e7 : n % 128 * 128 ^ i + n / 128 * 128 ^ (i + 1) = n * 128 ^ i := by
        rw [e1, ← Nat.mul_assoc, Nat.mul_right_comm, ← Nat.add_mul]
        congr 1
        omega
      refine Prod.ext ?_ ?_
      · show acc + n % 128 * 128 ^ i + n / 128 * 128 ^ (i + 1) = acc + n * 128 ^ i
        omega
      · show i + 1 + (seven (n / 128)).length = i + ((seven (n / 128)).length + 1)
        omega
theorem rdS_seven (n : Nat) (r : List UInt8) (h : n < 9223372036854775808) : rdS (seven n ++ r) = (n, (seven n).length) := by
  unfold rdS
  rw [rdGo_seven r n 0 0 (by simpa using h) (by omega)]
  simp
theorem seven_len {n : Nat} (h : n < 9223372036854775808) : 1 ≤ (seven n).length ∧ (seven n).length ≤ 9 := by
  have key : ∀ (k n : Nat), n < 128 ^ k → 1 ≤ k → 1 ≤ (seven n).length ∧ (seven n).length ≤ k := by
    intro k
    induction k with
    | zero => intro n _ h; omega
    | succ k ih =>
      intro n hn _
      by_cases h1 : n < 128
      · rw [seven_lt h1]; simp
      · rw [seven_ge h1]
        by_cases hk : k = 0
        · subst hk; simp at hn; omega
        · have := ih (n / 128) (by
            have e : 128 ^ (k + 1) = 128 ^ k * 128 := Nat.pow_succ ..
            rw [e] at hn
            exact Nat.div_lt_of_lt_mul (by rw [Nat.mul_comm]; exact hn)) (by omega)
          simp only [List.length_cons]
          omega
  exact key 9 n (by have : (128 : Nat) ^ 9 = 9223372036854775808 := by decide
                    omega) (by omega)
end Go.Proofs.YtjmfnakplmmpnaaDoor

namespace Go.Proofs.YtjmfnakplmmpnaaDoor
open Go.Sl
set_option linter.unusedVariables false
set_option linter.unusedSimpArgs false
set_option maxRecDepth 100000
set_option maxHeartbeats 4000000
theorem or128 {n : Nat} : n % 256 ||| 128 = n % 128 + 128 := by
  have h : ∀ m, m < 256 → m ||| 128 = m % 128 + 128 := by decide +kernel
  rw [h (n % 256) (Nat.mod_lt _ (by decide))]
  omega
theorem sAppend_ct (a : Option Addr) (cap : Nat) (b0 : Bs) (n0 : Nat) (M : List As) (hn : n0 < 9223372036854775808) (hl : b0.length ≤ 1000000) :
    Ctr Tryd.prog 61 #[.slice a b0.length cap, .int .u64 n0] (BR a b0.length cap b0 :: M) (fun v M' => ∃ a' cap', v = .slice a' (b0 ++ seven n0).length cap' ∧ M' = BR a' (b0 ++ seven n0).length cap' (b0 ++ seven n0) :: M) := by
  refine ctr_of (Γ := tab) (vs := [_, _]) fn61 rfl ?_
  repeat ((conv => whnf); (first | refine ztx ?_ | refine LNext.nilr ?_ | refine zne ?_ | refine zga ?_ | refine zxa ?_ | refine zca ?_ | refine zcb ?_ | refine zgb ?_ | refine zgd1 ?_ | refine zge ?_ | refine zgf ?_ | refine zgj ?_ | refine zgk ?_ | refine eqStr ?_ | refine neqStr ?_ | refine eqSlNil ?_ | refine capSlice ?_ | refine zgm ?_ | refine zgn ?_ | refine zgo ?_ | refine zba ?_ | refine zbb ?_ | refine zbc ?_ | refine zbd ?_ | refine zbe ?_ | refine zbf ?_ | refine zia ?_ | refine zib ?_ | refine zic ?_ | refine zid1 ?_ | refine zif1 ?_ | refine zig ?_ | refine zih ?_ | refine lint_u8_mod ?_ | refine zua ?_ | refine zgs ?_ | refine LRes.mk ?_ | refine LIn.step ?_ | refine zdr ?_ | refine zna (fun _ => ?_) | refine znb (fun _ => ?_) | refine znc (fun _ => ?_) | refine newSlice0 (fun _ => ?_)))
  refine LLoop.inv (Γ := tab) (fun x : Nat × Bs × Option Addr × Nat => [(0, .slice x.2.2.1 x.2.1.length x.2.2.2), (1, .int .u64 x.1)]) (fun x => BR x.2.2.1 x.2.1.length x.2.2.2 x.2.1 :: M) (fun x => x.1 ≤ n0 ∧ x.2.1 ++ seven x.1 = b0 ++ seven n0) (fun x => x.1) (n0, b0, a, cap) ⟨Nat.le_refl _, rfl⟩ zSu zEn ?_
  rintro ⟨n, b, a1, cap1⟩ ⟨hle, he⟩
  have h9 := seven_len hn
  have hlen := congrArg List.length he
  dsimp only at hle he hlen ⊢
  rw [List.length_append, List.length_append] at hlen
  by_cases h1 : n < 128
  · rw [seven_lt h1] at he
    have hu := u8_ofNat (n := n) (by omega)
    repeat ((conv => whnf); (first | refine ztx ?_ | refine LNext.nilr ?_ | refine zne ?_ | refine zga ?_ | refine zxa ?_ | refine zca ?_ | refine zcb ?_ | refine zgb ?_ | refine zgd1 ?_ | refine zge ?_ | refine zgf ?_ | refine zgj ?_ | refine zgk ?_ | refine eqStr ?_ | refine neqStr ?_ | refine eqSlNil ?_ | refine capSlice ?_ | refine zgm ?_ | refine zgn ?_ | refine zgo ?_ | refine zba ?_ | refine zbb ?_ | refine zbc ?_ | refine zbd ?_ | refine zbe ?_ | refine zbf ?_ | refine zia ?_ | refine zib ?_ | refine zic ?_ | refine zid1 ?_ | refine zif1 ?_ | refine zig ?_ | refine zih ?_ | refine lint_u8_mod ?_ | refine zua ?_ | refine zgs ?_ | refine LRes.mk ?_ | refine LIn.step ?_ | refine zdr ?_ | refine zna (fun _ => ?_) | refine znb (fun _ => ?_) | refine znc (fun _ => ?_) | refine newSlice0 (fun _ => ?_)))
    refine appendE tab (enc := encU) (xs := b) [UInt8.ofNat n] zTk (by intro _; rfl) rfl rfl rfl rfl rfl (by rw [show List.flatMap encU [UInt8.ofNat n] = [Value.int .u8 (n : Int)] by simp [encU, hu]]; exact zCs) (by intro x hx; simp at hx; subst hx; rfl) (by simp only [maxLen]; omega) (by omega) (by omega) (fun g c => ?_)
    rw [show b.length + 1 = (b ++ [UInt8.ofNat n]).length by simp, he]
    repeat ((conv => whnf); (first | refine ztx ?_ | refine LNext.nilr ?_ | refine zne ?_ | refine zga ?_ | refine zxa ?_ | refine zca ?_ | refine zcb ?_ | refine zgb ?_ | refine zgd1 ?_ | refine zge ?_ | refine zgf ?_ | refine zgj ?_ | refine zgk ?_ | refine eqStr ?_ | refine neqStr ?_ | refine eqSlNil ?_ | refine capSlice ?_ | refine zgm ?_ | refine zgn ?_ | refine zgo ?_ | refine zba ?_ | refine zbb ?_ | refine zbc ?_ | refine zbd ?_ | refine zbe ?_ | refine zbf ?_ | refine zia ?_ | refine zib ?_ | refine zic ?_ | refine zid1 ?_ | refine zif1 ?_ | refine zig ?_ | refine zih ?_ | refine lint_u8_mod ?_ | refine zua ?_ | refine zgs ?_ | refine LRes.mk ?_ | refine LIn.step ?_ | refine zdr ?_ | refine zna (fun _ => ?_) | refine znb (fun _ => ?_) | refine znc (fun _ => ?_) | refine newSlice0 (fun _ => ?_)))
    show Fin _ _ _; exact Fin.of (BR (some ⟨g, 0, none⟩) (b0 ++ seven n0).length c (b0 ++ seven n0) :: M) zEn ⟨_, _, rfl, rfl⟩
  · rw [seven_ge h1] at he
    have hu := u8_ofNat (n := n % 128 + 128) (by omega)
    repeat ((conv => whnf); (first | refine ztx ?_ | refine LNext.nilr ?_ | refine zne ?_ | refine zga ?_ | refine zxa ?_ | refine zca ?_ | refine zcb ?_ | refine zgb ?_ | refine zgd1 ?_ | refine zge ?_ | refine zgf ?_ | refine zgj ?_ | refine zgk ?_ | refine eqStr ?_ | refine neqStr ?_ | refine eqSlNil ?_ | refine capSlice ?_ | refine zgm ?_ | refine zgn ?_ | refine zgo ?_ | refine zba ?_ | refine zbb ?_ | refine zbc ?_ | refine zbd ?_ | refine zbe ?_ | refine zbf ?_ | refine zia ?_ | refine zib ?_ | refine zic ?_ | refine zid1 ?_ | refine zif1 ?_ | refine zig ?_ | refine zih ?_ | refine lint_u8_mod ?_ | refine zua ?_ | refine zgs ?_ | refine LRes.mk ?_ | refine LIn.step ?_ | refine zdr ?_ | refine zna (fun _ => ?_) | refine znb (fun _ => ?_) | refine znc (fun _ => ?_) | refine newSlice0 (fun _ => ?_)))
    refine lor8 (a := n % 256) (b := 128) (by omega) (by decide) ?_
    rw [or128, ← hu]
    repeat ((conv => whnf); (first | refine ztx ?_ | refine LNext.nilr ?_ | refine zne ?_ | refine zga ?_ | refine zxa ?_ | refine zca ?_ | refine zcb ?_ | refine zgb ?_ | refine zgd1 ?_ | refine zge ?_ | refine zgf ?_ | refine zgj ?_ | refine zgk ?_ | refine eqStr ?_ | refine neqStr ?_ | refine eqSlNil ?_ | refine capSlice ?_ | refine zgm ?_ | refine zgn ?_ | refine zgo ?_ | refine zba ?_ | refine zbb ?_ | refine zbc ?_ | refine zbd ?_ | refine zbe ?_ | refine zbf ?_ | refine zia ?_ | refine zib ?_ | refine zic ?_ | refine zid1 ?_ | refine zif1 ?_ | refine zig ?_ | refine zih ?_ | refine lint_u8_mod ?_ | refine zua ?_ | refine zgs ?_ | refine LRes.mk ?_ | refine LIn.step ?_ | refine zdr ?_ | refine zna (fun _ => ?_) | refine znb (fun _ => ?_) | refine znc (fun _ => ?_) | refine newSlice0 (fun _ => ?_)))
    refine appendE tab (enc := encU) (xs := b) ([UInt8.ofNat (n % 128 + 128)]) zTk (by intro _; rfl) rfl rfl rfl rfl rfl zCs (by intro x hx; simp at hx; subst hx; rfl) (by simp only [maxLen]; omega) (by omega) (by omega) (fun g c => ?_)
    rw [show b.length + 1 = (b ++ [UInt8.ofNat (n % 128 + 128)]).length by simp]
    repeat ((conv => whnf); (first | refine ztx ?_ | refine LNext.nilr ?_ | refine zne ?_ | refine zga ?_ | refine zxa ?_ | refine zca ?_ | refine zcb ?_ | refine zgb ?_ | refine zgd1 ?_ | refine zge ?_ | refine zgf ?_ | refine zgj ?_ | refine zgk ?_ | refine eqStr ?_ | refine neqStr ?_ | refine eqSlNil ?_ | refine capSlice ?_ | refine zgm ?_ | refine zgn ?_ | refine zgo ?_ | refine zba ?_ | refine zbb ?_ | refine zbc ?_ | refine zbd ?_ | refine zbe ?_ | refine zbf ?_ | refine zia ?_ | refine zib ?_ | refine zic ?_ | refine zid1 ?_ | refine zif1 ?_ | refine zig ?_ | refine zih ?_ | refine lint_u8_mod ?_ | refine zua ?_ | refine zgs ?_ | refine LRes.mk ?_ | refine LIn.step ?_ | refine zdr ?_ | refine zna (fun _ => ?_) | refine znb (fun _ => ?_) | refine znc (fun _ => ?_) | refine newSlice0 (fun _ => ?_)))
    refine lshr 7 (by decide) ?_
    repeat ((conv => whnf); (first | refine ztx ?_ | refine LNext.nilr ?_ | refine zne ?_ | refine zga ?_ | refine zxa ?_ | refine zca ?_ | refine zcb ?_ | refine zgb ?_ | refine zgd1 ?_ | refine zge ?_ | refine zgf ?_ | refine zgj ?_ | refine zgk ?_ | refine eqStr ?_ | refine neqStr ?_ | refine eqSlNil ?_ | refine capSlice ?_ | refine zgm ?_ | refine zgn ?_ | refine zgo ?_ | refine zba ?_ | refine zbb ?_ | refine zbc ?_ | refine zbd ?_ | refine zbe ?_ | refine zbf ?_ | refine zia ?_ | refine zib ?_ | refine zic ?_ | refine zid1 ?_ | refine zif1 ?_ | refine zig ?_ | refine zih ?_ | refine lint_u8_mod ?_ | refine zua ?_ | refine zgs ?_ | refine LRes.mk ?_ | refine LIn.step ?_ | refine zdr ?_ | refine zna (fun _ => ?_) | refine znb (fun _ => ?_) | refine znc (fun _ => ?_) | refine newSlice0 (fun _ => ?_)))
    exact ⟨(n / 128, b ++ [UInt8.ofNat (n % 128 + 128)], some ⟨g, 0, none⟩, c), ⟨by dsimp only; omega, by dsimp only; rw [← he]; simp⟩, by dsimp only; omega, zSu, zEn⟩
instance : Inhabited (SlV UInt8) := ⟨⟨none, 0, []⟩⟩
def encP (p : SlV UInt8) : List Value := [.slice p.a p.xs.length p.cap]
theorem sRead_ct (M : List As) (a : Option Addr) (cap : Nat) (b : Bs) (hr : RdH M a 1 encU b) (hl : b.length ≤ 9223372036854775807) :
    Ctr Tryd.prog 77 #[.slice a b.length cap] M (fun v M' => v = .tuple #[.int .u64 ((rdS b).1 : Nat), .int .i64 ((rdS b).2 : Nat)] ∧ M' = M) := by
  refine Ctr.rd (okg fn77) hr (fun rx => ?_)
  refine ctr_of (Γ := tab) (vs := [_]) fn77 rfl ?_
  repeat ((conv => whnf); (first | refine ztx ?_ | refine LNext.nilr ?_ | refine zne ?_ | refine zga ?_ | refine zxa ?_ | refine zca ?_ | refine zcb ?_ | refine zgb ?_ | refine zgd1 ?_ | refine zge ?_ | refine zgf ?_ | refine zgj ?_ | refine zgk ?_ | refine eqStr ?_ | refine neqStr ?_ | refine eqSlNil ?_ | refine capSlice ?_ | refine zgm ?_ | refine zgn ?_ | refine zgo ?_ | refine zba ?_ | refine zbb ?_ | refine zbc ?_ | refine zbd ?_ | refine zbe ?_ | refine zbf ?_ | refine zia ?_ | refine zib ?_ | refine zic ?_ | refine zid1 ?_ | refine zif1 ?_ | refine zig ?_ | refine zih ?_ | refine lint_u8_mod ?_ | refine zua ?_ | refine zgs ?_ | refine LRes.mk ?_ | refine LIn.step ?_ | refine zdr ?_ | refine zna (fun _ => ?_) | refine znb (fun _ => ?_) | refine znc (fun _ => ?_) | refine newSlice0 (fun _ => ?_)))
  refine LLoop.inv (Γ := tab) (fun x : Nat × Nat => [(4, .int .u64 x.2), (7, .slice a b.length cap), (8, .int .i64 b.length), (9, .int .i64 x.1)]) (fun _ => M) (fun x => x.1 ≤ b.length ∧ x.1 ≤ 10 ∧ (x.1 ≤ 9 → x.2 < 2 ^ (7 * x.1)) ∧ rdS b = rdGo x.1 x.2 (b.drop x.1)) (fun x => b.length - x.1) (0, 0) ⟨Nat.zero_le _, by dsimp only; omega, fun _ => by decide, rfl⟩ zSu zEn ?_
  rintro ⟨i, n⟩ ⟨hi, hi10, hn, he⟩
  dsimp only at hi hi10 hn he ⊢
  by_cases h1 : i < b.length
  · obtain ⟨g, o, rfl, l⟩ := rx.get h1
    rw [gd_drop h1, rdGo] at he
    have hx := (gd b i).toNat_lt
    by_cases c1 : (i = 9 ∧ 1 < (gd b i).toNat) ∨ 9 < i
    · rw [if_pos c1] at he
      rw [he]
      by_cases c2 : i = 9
      · have c3 : 1 < (gd b i).toNat := by omega
        repeat ((conv => whnf); (first | refine ztx ?_ | refine LNext.nilr ?_ | refine zne ?_ | refine zga ?_ | refine zxa ?_ | refine zca ?_ | refine zcb ?_ | refine zgb ?_ | refine zgd1 ?_ | refine zge ?_ | refine zgf ?_ | refine zgj ?_ | refine zgk ?_ | refine eqStr ?_ | refine neqStr ?_ | refine eqSlNil ?_ | refine capSlice ?_ | refine zgm ?_ | refine zgn ?_ | refine zgo ?_ | refine zba ?_ | refine zbb ?_ | refine zbc ?_ | refine zbd ?_ | refine zbe ?_ | refine zbf ?_ | refine zia ?_ | refine zib ?_ | refine zic ?_ | refine zid1 ?_ | refine zif1 ?_ | refine zig ?_ | refine zih ?_ | refine lint_u8_mod ?_ | refine zua ?_ | refine zgs ?_ | refine LRes.mk ?_ | refine LIn.step ?_ | refine zdr ?_ | refine zna (fun _ => ?_) | refine znb (fun _ => ?_) | refine znc (fun _ => ?_) | refine newSlice0 (fun _ => ?_)))
        show Fin _ _ _; exact Fin.of M zEn ⟨rfl, rfl⟩
      · repeat ((conv => whnf); (first | refine ztx ?_ | refine LNext.nilr ?_ | refine zne ?_ | refine zga ?_ | refine zxa ?_ | refine zca ?_ | refine zcb ?_ | refine zgb ?_ | refine zgd1 ?_ | refine zge ?_ | refine zgf ?_ | refine zgj ?_ | refine zgk ?_ | refine eqStr ?_ | refine neqStr ?_ | refine eqSlNil ?_ | refine capSlice ?_ | refine zgm ?_ | refine zgn ?_ | refine zgo ?_ | refine zba ?_ | refine zbb ?_ | refine zbc ?_ | refine zbd ?_ | refine zbe ?_ | refine zbf ?_ | refine zia ?_ | refine zib ?_ | refine zic ?_ | refine zid1 ?_ | refine zif1 ?_ | refine zig ?_ | refine zih ?_ | refine lint_u8_mod ?_ | refine zua ?_ | refine zgs ?_ | refine LRes.mk ?_ | refine LIn.step ?_ | refine zdr ?_ | refine zna (fun _ => ?_) | refine znb (fun _ => ?_) | refine znc (fun _ => ?_) | refine newSlice0 (fun _ => ?_)))
        show Fin _ _ _; exact Fin.of M zEn ⟨rfl, rfl⟩
    · rw [if_neg c1] at he
      have hi9 : i ≤ 9 := by omega
      have hn' := hn hi9
      have hp : (128 : Nat) ^ i = 2 ^ (7 * i) := by rw [Nat.pow_mul]
      rw [hp] at he
      have ha : (gd b i).toNat &&& 127 = (gd b i).toNat % 128 := Nat.and_two_pow_sub_one_eq_mod _ 7
      have hxl : (gd b i).toNat % 128 < 128 := Nat.mod_lt _ (by decide)
      have h64 : (gd b i).toNat % 128 * 2 ^ (7 * i) < 18446744073709551616 := by
        by_cases c2 : i = 9
        · subst c2
          have : (gd b 9).toNat % 128 ≤ 1 := by omega
          have e : (2 : Nat) ^ (7 * 9) = 9223372036854775808 := by decide
          rw [e]; omega
        · have e1 : (2 : Nat) ^ (7 * i) ≤ 2 ^ 56 := Nat.pow_le_pow_right (by decide) (by omega)
          have e2 : (gd b i).toNat % 128 * 2 ^ (7 * i) ≤ 127 * 2 ^ 56 := Nat.mul_le_mul (by omega) e1
          omega
      have hn64 : n < 18446744073709551616 := by
        have e1 : (2 : Nat) ^ (7 * i) ≤ 2 ^ 63 := Nat.pow_le_pow_right (by decide) (by omega)
        omega
      have hstep : n ||| (gd b i).toNat % 128 * 2 ^ (7 * i) = n + (gd b i).toNat % 128 * 2 ^ (7 * i) := or_add _ hn'
      by_cases c2 : i = 9
      · have c3 : (gd b i).toNat ≤ 1 := by omega
        repeat ((conv => whnf); (first | refine ztx ?_ | refine zby8 ?_ | refine zby32 ?_ | refine zby64 ?_ | refine zbyi ?_ | refine LNext.nilr ?_ | refine zne ?_ | refine zga ?_ | refine zxa ?_ | refine zca ?_ | refine zcb ?_ | refine zgb ?_ | refine zgd1 ?_ | refine zge ?_ | refine zgf ?_ | refine zgj ?_ | refine zgk ?_ | refine eqStr ?_ | refine neqStr ?_ | refine eqSlNil ?_ | refine capSlice ?_ | refine zgm ?_ | refine zgn ?_ | refine zgo ?_ | refine zba ?_ | refine zbb ?_ | refine zbc ?_ | refine zbd ?_ | refine zbe ?_ | refine zbf ?_ | refine zia ?_ | refine zib ?_ | refine zic ?_ | refine zid1 ?_ | refine zif1 ?_ | refine zig ?_ | refine zih ?_ | refine lint_u8_mod ?_ | refine zua ?_ | refine zgs ?_ | refine LRes.mk ?_ | refine LIn.step ?_ | refine zdr ?_ | refine zna (fun _ => ?_) | refine znb (fun _ => ?_) | refine znc (fun _ => ?_) | refine newSlice0 (fun _ => ?_)))
        refine land8 (a := (gd b i).toNat) (b := 127) (by omega) (by decide) ?_
        rw [ha]
        repeat ((conv => whnf); (first | refine ztx ?_ | refine LNext.nilr ?_ | refine zne ?_ | refine zga ?_ | refine zxa ?_ | refine zca ?_ | refine zcb ?_ | refine zgb ?_ | refine zgd1 ?_ | refine zge ?_ | refine zgf ?_ | refine zgj ?_ | refine zgk ?_ | refine eqStr ?_ | refine neqStr ?_ | refine eqSlNil ?_ | refine capSlice ?_ | refine zgm ?_ | refine zgn ?_ | refine zgo ?_ | refine zba ?_ | refine zbb ?_ | refine zbc ?_ | refine zbd ?_ | refine zbe ?_ | refine zbf ?_ | refine zia ?_ | refine zib ?_ | refine zic ?_ | refine zid1 ?_ | refine zif1 ?_ | refine zig ?_ | refine zih ?_ | refine lint_u8_mod ?_ | refine zua ?_ | refine zgs ?_ | refine LRes.mk ?_ | refine LIn.step ?_ | refine zdr ?_ | refine zna (fun _ => ?_) | refine znb (fun _ => ?_) | refine znc (fun _ => ?_) | refine newSlice0 (fun _ => ?_)))
        refine zu64 ?_ (by omega)
        repeat ((conv => whnf); (first | refine ztx ?_ | refine LNext.nilr ?_ | refine zne ?_ | refine zga ?_ | refine zxa ?_ | refine zca ?_ | refine zcb ?_ | refine zgb ?_ | refine zgd1 ?_ | refine zge ?_ | refine zgf ?_ | refine zgj ?_ | refine zgk ?_ | refine eqStr ?_ | refine neqStr ?_ | refine eqSlNil ?_ | refine capSlice ?_ | refine zgm ?_ | refine zgn ?_ | refine zgo ?_ | refine zba ?_ | refine zbb ?_ | refine zbc ?_ | refine zbd ?_ | refine zbe ?_ | refine zbf ?_ | refine zia ?_ | refine zib ?_ | refine zic ?_ | refine zid1 ?_ | refine zif1 ?_ | refine zig ?_ | refine zih ?_ | refine lint_u8_mod ?_ | refine zua ?_ | refine zgs ?_ | refine LRes.mk ?_ | refine LIn.step ?_ | refine zdr ?_ | refine zna (fun _ => ?_) | refine znb (fun _ => ?_) | refine znc (fun _ => ?_) | refine newSlice0 (fun _ => ?_)))
        refine zu64 ?_ (by omega)
        repeat ((conv => whnf); (first | refine ztx ?_ | refine LNext.nilr ?_ | refine zne ?_ | refine zga ?_ | refine zxa ?_ | refine zca ?_ | refine zcb ?_ | refine zgb ?_ | refine zgd1 ?_ | refine zge ?_ | refine zgf ?_ | refine zgj ?_ | refine zgk ?_ | refine eqStr ?_ | refine neqStr ?_ | refine eqSlNil ?_ | refine capSlice ?_ | refine zgm ?_ | refine zgn ?_ | refine zgo ?_ | refine zba ?_ | refine zbb ?_ | refine zbc ?_ | refine zbd ?_ | refine zbe ?_ | refine zbf ?_ | refine zia ?_ | refine zib ?_ | refine zic ?_ | refine zid1 ?_ | refine zif1 ?_ | refine zig ?_ | refine zih ?_ | refine lint_u8_mod ?_ | refine zua ?_ | refine zgs ?_ | refine LRes.mk ?_ | refine LIn.step ?_ | refine zdr ?_ | refine zna (fun _ => ?_) | refine znb (fun _ => ?_) | refine znc (fun _ => ?_) | refine newSlice0 (fun _ => ?_)))
        refine lint_u64 (m := ((7 * i : Nat) : Int)) (by omega) (by omega) ?_
        repeat ((conv => whnf); (first | refine ztx ?_ | refine LNext.nilr ?_ | refine zne ?_ | refine zga ?_ | refine zxa ?_ | refine zca ?_ | refine zcb ?_ | refine zgb ?_ | refine zgd1 ?_ | refine zge ?_ | refine zgf ?_ | refine zgj ?_ | refine zgk ?_ | refine eqStr ?_ | refine neqStr ?_ | refine eqSlNil ?_ | refine capSlice ?_ | refine zgm ?_ | refine zgn ?_ | refine zgo ?_ | refine zba ?_ | refine zbb ?_ | refine zbc ?_ | refine zbd ?_ | refine zbe ?_ | refine zbf ?_ | refine zia ?_ | refine zib ?_ | refine zic ?_ | refine zid1 ?_ | refine zif1 ?_ | refine zig ?_ | refine zih ?_ | refine lint_u8_mod ?_ | refine zua ?_ | refine zgs ?_ | refine LRes.mk ?_ | refine LIn.step ?_ | refine zdr ?_ | refine zna (fun _ => ?_) | refine znb (fun _ => ?_) | refine znc (fun _ => ?_) | refine newSlice0 (fun _ => ?_)))
        refine lshl64 (a := (gd b i).toNat % 128) (7 * i) (by omega) h64 ?_
        repeat ((conv => whnf); (first | refine ztx ?_ | refine LNext.nilr ?_ | refine zne ?_ | refine zga ?_ | refine zxa ?_ | refine zca ?_ | refine zcb ?_ | refine zgb ?_ | refine zgd1 ?_ | refine zge ?_ | refine zgf ?_ | refine zgj ?_ | refine zgk ?_ | refine eqStr ?_ | refine neqStr ?_ | refine eqSlNil ?_ | refine capSlice ?_ | refine zgm ?_ | refine zgn ?_ | refine zgo ?_ | refine zba ?_ | refine zbb ?_ | refine zbc ?_ | refine zbd ?_ | refine zbe ?_ | refine zbf ?_ | refine zia ?_ | refine zib ?_ | refine zic ?_ | refine zid1 ?_ | refine zif1 ?_ | refine zig ?_ | refine zih ?_ | refine lint_u8_mod ?_ | refine zua ?_ | refine zgs ?_ | refine LRes.mk ?_ | refine LIn.step ?_ | refine zdr ?_ | refine zna (fun _ => ?_) | refine znb (fun _ => ?_) | refine znc (fun _ => ?_) | refine newSlice0 (fun _ => ?_)))
        refine lor64 (a := n) (b := (gd b i).toNat % 128 * 2 ^ (7 * i)) (by omega) (by omega) ?_
        rw [hstep]
        by_cases c4 : (gd b i).toNat < 128
        · rw [if_pos c4] at he
          have hxm : (gd b i).toNat % 128 = (gd b i).toNat := Nat.mod_eq_of_lt c4
          rw [he, hxm]
          repeat ((conv => whnf); (first | refine ztx ?_ | refine LNext.nilr ?_ | refine zne ?_ | refine zga ?_ | refine zxa ?_ | refine zca ?_ | refine zcb ?_ | refine zgb ?_ | refine zgd1 ?_ | refine zge ?_ | refine zgf ?_ | refine zgj ?_ | refine zgk ?_ | refine eqStr ?_ | refine neqStr ?_ | refine eqSlNil ?_ | refine capSlice ?_ | refine zgm ?_ | refine zgn ?_ | refine zgo ?_ | refine zba ?_ | refine zbb ?_ | refine zbc ?_ | refine zbd ?_ | refine zbe ?_ | refine zbf ?_ | refine zia ?_ | refine zib ?_ | refine zic ?_ | refine zid1 ?_ | refine zif1 ?_ | refine zig ?_ | refine zih ?_ | refine lint_u8_mod ?_ | refine zua ?_ | refine zgs ?_ | refine LRes.mk ?_ | refine LIn.step ?_ | refine zdr ?_ | refine zna (fun _ => ?_) | refine znb (fun _ => ?_) | refine znc (fun _ => ?_) | refine newSlice0 (fun _ => ?_)))
          show Fin _ _ _; exact Fin.of M zEn ⟨rfl, rfl⟩
        · omega
      · repeat ((conv => whnf); (first | refine ztx ?_ | refine zby8 ?_ | refine zby32 ?_ | refine zby64 ?_ | refine zbyi ?_ | refine LNext.nilr ?_ | refine zne ?_ | refine zga ?_ | refine zxa ?_ | refine zca ?_ | refine zcb ?_ | refine zgb ?_ | refine zgd1 ?_ | refine zge ?_ | refine zgf ?_ | refine zgj ?_ | refine zgk ?_ | refine eqStr ?_ | refine neqStr ?_ | refine eqSlNil ?_ | refine capSlice ?_ | refine zgm ?_ | refine zgn ?_ | refine zgo ?_ | refine zba ?_ | refine zbb ?_ | refine zbc ?_ | refine zbd ?_ | refine zbe ?_ | refine zbf ?_ | refine zia ?_ | refine zib ?_ | refine zic ?_ | refine zid1 ?_ | refine zif1 ?_ | refine zig ?_ | refine zih ?_ | refine lint_u8_mod ?_ | refine zua ?_ | refine zgs ?_ | refine LRes.mk ?_ | refine LIn.step ?_ | refine zdr ?_ | refine zna (fun _ => ?_) | refine znb (fun _ => ?_) | refine znc (fun _ => ?_) | refine newSlice0 (fun _ => ?_)))
        refine land8 (a := (gd b i).toNat) (b := 127) (by omega) (by decide) ?_
        rw [ha]
        repeat ((conv => whnf); (first | refine ztx ?_ | refine LNext.nilr ?_ | refine zne ?_ | refine zga ?_ | refine zxa ?_ | refine zca ?_ | refine zcb ?_ | refine zgb ?_ | refine zgd1 ?_ | refine zge ?_ | refine zgf ?_ | refine zgj ?_ | refine zgk ?_ | refine eqStr ?_ | refine neqStr ?_ | refine eqSlNil ?_ | refine capSlice ?_ | refine zgm ?_ | refine zgn ?_ | refine zgo ?_ | refine zba ?_ | refine zbb ?_ | refine zbc ?_ | refine zbd ?_ | refine zbe ?_ | refine zbf ?_ | refine zia ?_ | refine zib ?_ | refine zic ?_ | refine zid1 ?_ | refine zif1 ?_ | refine zig ?_ | refine zih ?_ | refine lint_u8_mod ?_ | refine zua ?_ | refine zgs ?_ | refine LRes.mk ?_ | refine LIn.step ?_ | refine zdr ?_ | refine zna (fun _ => ?_) | refine znb (fun _ => ?_) | refine znc (fun _ => ?_) | refine newSlice0 (fun _ => ?_)))
        refine zu64 ?_ (by omega)
        repeat ((conv => whnf); (first | refine ztx ?_ | refine LNext.nilr ?_ | refine zne ?_ | refine zga ?_ | refine zxa ?_ | refine zca ?_ | refine zcb ?_ | refine zgb ?_ | refine zgd1 ?_ | refine zge ?_ | refine zgf ?_ | refine zgj ?_ | refine zgk ?_ | refine eqStr ?_ | refine neqStr ?_ | refine eqSlNil ?_ | refine capSlice ?_ | refine zgm ?_ | refine zgn ?_ | refine zgo ?_ | refine zba ?_ | refine zbb ?_ | refine zbc ?_ | refine zbd ?_ | refine zbe ?_ | refine zbf ?_ | refine zia ?_ | refine zib ?_ | refine zic ?_ | refine zid1 ?_ | refine zif1 ?_ | refine zig ?_ | refine zih ?_ | refine lint_u8_mod ?_ | refine zua ?_ | refine zgs ?_ | refine LRes.mk ?_ | refine LIn.step ?_ | refine zdr ?_ | refine zna (fun _ => ?_) | refine znb (fun _ => ?_) | refine znc (fun _ => ?_) | refine newSlice0 (fun _ => ?_)))
        refine zu64 ?_ (by omega)
        repeat ((conv => whnf); (first | refine ztx ?_ | refine LNext.nilr ?_ | refine zne ?_ | refine zga ?_ | refine zxa ?_ | refine zca ?_ | refine zcb ?_ | refine zgb ?_ | refine zgd1 ?_ | refine zge ?_ | refine zgf ?_ | refine zgj ?_ | refine zgk ?_ | refine eqStr ?_ | refine neqStr ?_ | refine eqSlNil ?_ | refine capSlice ?_ | refine zgm ?_ | refine zgn ?_ | refine zgo ?_ | refine zba ?_ | refine zbb ?_ | refine zbc ?_ | refine zbd ?_ | refine zbe ?_ | refine zbf ?_ | refine zia ?_ | refine zib ?_ | refine zic ?_ | refine zid1 ?_ | refine zif1 ?_ | refine zig ?_ | refine zih ?_ | refine lint_u8_mod ?_ | refine zua ?_ | refine zgs ?_ | refine LRes.mk ?_ | refine LIn.step ?_ | refine zdr ?_ | refine zna (fun _ => ?_) | refine znb (fun _ => ?_) | refine znc (fun _ => ?_) | refine newSlice0 (fun _ => ?_)))
        refine lint_u64 (m := ((7 * i : Nat) : Int)) (by omega) (by omega) ?_
        repeat ((conv => whnf); (first | refine ztx ?_ | refine LNext.nilr ?_ | refine zne ?_ | refine zga ?_ | refine zxa ?_ | refine zca ?_ | refine zcb ?_ | refine zgb ?_ | refine zgd1 ?_ | refine zge ?_ | refine zgf ?_ | refine zgj ?_ | refine zgk ?_ | refine eqStr ?_ | refine neqStr ?_ | refine eqSlNil ?_ | refine capSlice ?_ | refine zgm ?_ | refine zgn ?_ | refine zgo ?_ | refine zba ?_ | refine zbb ?_ | refine zbc ?_ | refine zbd ?_ | refine zbe ?_ | refine zbf ?_ | refine zia ?_ | refine zib ?_ | refine zic ?_ | refine zid1 ?_ | refine zif1 ?_ | refine zig ?_ | refine zih ?_ | refine lint_u8_mod ?_ | refine zua ?_ | refine zgs ?_ | refine LRes.mk ?_ | refine LIn.step ?_ | refine zdr ?_ | refine zna (fun _ => ?_) | refine znb (fun _ => ?_) | refine znc (fun _ => ?_) | refine newSlice0 (fun _ => ?_)))
        refine lshl64 (a := (gd b i).toNat % 128) (7 * i) (by omega) h64 ?_
        repeat ((conv => whnf); (first | refine ztx ?_ | refine LNext.nilr ?_ | refine zne ?_ | refine zga ?_ | refine zxa ?_ | refine zca ?_ | refine zcb ?_ | refine zgb ?_ | refine zgd1 ?_ | refine zge ?_ | refine zgf ?_ | refine zgj ?_ | refine zgk ?_ | refine eqStr ?_ | refine neqStr ?_ | refine eqSlNil ?_ | refine capSlice ?_ | refine zgm ?_ | refine zgn ?_ | refine zgo ?_ | refine zba ?_ | refine zbb ?_ | refine zbc ?_ | refine zbd ?_ | refine zbe ?_ | refine zbf ?_ | refine zia ?_ | refine zib ?_ | refine zic ?_ | refine zid1 ?_ | refine zif1 ?_ | refine zig ?_ | refine zih ?_ | refine lint_u8_mod ?_ | refine zua ?_ | refine zgs ?_ | refine LRes.mk ?_ | refine LIn.step ?_ | refine zdr ?_ | refine zna (fun _ => ?_) | refine znb (fun _ => ?_) | refine znc (fun _ => ?_) | refine newSlice0 (fun _ => ?_)))
        refine lor64 (a := n) (b := (gd b i).toNat % 128 * 2 ^ (7 * i)) (by omega) (by omega) ?_
        rw [hstep]
        by_cases c4 : (gd b i).toNat < 128
        · rw [if_pos c4] at he
          have hxm : (gd b i).toNat % 128 = (gd b i).toNat := Nat.mod_eq_of_lt c4
          rw [he, hxm]
          repeat ((conv => whnf); (first | refine ztx ?_ | refine LNext.nilr ?_ | refine zne ?_ | refine zga ?_ | refine zxa ?_ | refine zca ?_ | refine zcb ?_ | refine zgb ?_ | refine zgd1 ?_ | refine zge ?_ | refine zgf ?_ | refine zgj ?_ | refine zgk ?_ | refine eqStr ?_ | refine neqStr ?_ | refine eqSlNil ?_ | refine capSlice ?_ | refine zgm ?_ | refine zgn ?_ | refine zgo ?_ | refine zba ?_ | refine zbb ?_ | refine zbc ?_ | refine zbd ?_ | refine zbe ?_ | refine zbf ?_ | refine zia ?_ | refine zib ?_ | refine zic ?_ | refine zid1 ?_ | refine zif1 ?_ | refine zig ?_ | refine zih ?_ | refine lint_u8_mod ?_ | refine zua ?_ | refine zgs ?_ | refine LRes.mk ?_ | refine LIn.step ?_ | refine zdr ?_ | refine zna (fun _ => ?_) | refine znb (fun _ => ?_) | refine znc (fun _ => ?_) | refine newSlice0 (fun _ => ?_)))
          show Fin _ _ _; exact Fin.of M zEn ⟨rfl, rfl⟩
        · rw [if_neg c4] at he
          repeat ((conv => whnf); (first | refine ztx ?_ | refine LNext.nilr ?_ | refine zne ?_ | refine zga ?_ | refine zxa ?_ | refine zca ?_ | refine zcb ?_ | refine zgb ?_ | refine zgd1 ?_ | refine zge ?_ | refine zgf ?_ | refine zgj ?_ | refine zgk ?_ | refine eqStr ?_ | refine neqStr ?_ | refine eqSlNil ?_ | refine capSlice ?_ | refine zgm ?_ | refine zgn ?_ | refine zgo ?_ | refine zba ?_ | refine zbb ?_ | refine zbc ?_ | refine zbd ?_ | refine zbe ?_ | refine zbf ?_ | refine zia ?_ | refine zib ?_ | refine zic ?_ | refine zid1 ?_ | refine zif1 ?_ | refine zig ?_ | refine zih ?_ | refine lint_u8_mod ?_ | refine zua ?_ | refine zgs ?_ | refine LRes.mk ?_ | refine LIn.step ?_ | refine zdr ?_ | refine zna (fun _ => ?_) | refine znb (fun _ => ?_) | refine znc (fun _ => ?_) | refine newSlice0 (fun _ => ?_)))
          refine ⟨(i + 1, n + (gd b i).toNat % 128 * 2 ^ (7 * i)), ⟨h1, by dsimp only; omega, fun h9 => ?_, he⟩, by dsimp only; omega, zSu, zEn⟩
          dsimp only at h9 ⊢
          have e1 : (2 : Nat) ^ (7 * (i + 1)) = 2 ^ (7 * i) * 128 := by rw [show 7 * (i + 1) = 7 * i + 7 by omega, Nat.pow_add]
          rw [e1]
          have e2 : (gd b i).toNat % 128 * 2 ^ (7 * i) ≤ 127 * 2 ^ (7 * i) := Nat.mul_le_mul_right _ (by omega)
          omega
  · have hd : b.drop i = [] := List.drop_of_length_le (by omega)
    rw [hd] at he
    rw [he]
    repeat ((conv => whnf); (first | refine ztx ?_ | refine LNext.nilr ?_ | refine zne ?_ | refine zga ?_ | refine zxa ?_ | refine zca ?_ | refine zcb ?_ | refine zgb ?_ | refine zgd1 ?_ | refine zge ?_ | refine zgf ?_ | refine zgj ?_ | refine zgk ?_ | refine eqStr ?_ | refine neqStr ?_ | refine eqSlNil ?_ | refine capSlice ?_ | refine zgm ?_ | refine zgn ?_ | refine zgo ?_ | refine zba ?_ | refine zbb ?_ | refine zbc ?_ | refine zbd ?_ | refine zbe ?_ | refine zbf ?_ | refine zia ?_ | refine zib ?_ | refine zic ?_ | refine zid1 ?_ | refine zif1 ?_ | refine zig ?_ | refine zih ?_ | refine lint_u8_mod ?_ | refine zua ?_ | refine zgs ?_ | refine LRes.mk ?_ | refine LIn.step ?_ | refine zdr ?_ | refine zna (fun _ => ?_) | refine znb (fun _ => ?_) | refine znc (fun _ => ?_) | refine newSlice0 (fun _ => ?_)))
    show Fin _ _ _; exact Fin.of M zEn ⟨rfl, rfl⟩
end Go.Proofs.YtjmfnakplmmpnaaDoor
