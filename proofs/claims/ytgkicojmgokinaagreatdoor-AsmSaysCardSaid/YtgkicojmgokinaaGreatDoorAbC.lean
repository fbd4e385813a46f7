/- The context of the run over this program: its types, its functions, the tails of its regions that draw. Laid by wip/ab/abctx.py. -/
import Derived.Test.YtgkicojmgokinaaGreatDoorProg
import Derived.Test.YtgkicojmgokinaaGreatDoorAb14
import Derived.KernelRfl
namespace Go.Proofs.YtgkicojmgokinaaGreatDoor.Ab
open Go Go.RowKit
set_option linter.unusedVariables false
set_option linter.unusedSimpArgs false
def tab : Tab
  | 1 => some { d := TD.func, size := 1, bytes := 8, zero := Value.nilFunc }
  | 2 => some { d := TD.int IntKind.i64, size := 1, bytes := 8, zero := Value.int IntKind.i64 0 }
  | 3 => some { d := TD.int IntKind.i64, size := 1, bytes := 8, zero := Value.int IntKind.i64 0 }
  | 4 => some { d := TD.bool, size := 1, bytes := 1, zero := Value.bool false }
  | 5 => some { d := TD.int IntKind.u8, size := 1, bytes := 1, zero := Value.int IntKind.u8 0 }
  | 9 => some { d := TD.str, size := 1, bytes := 16, zero := Value.string { data := #[] } }
  | 20 => some { d := TD.iface, size := 1, bytes := 16, zero := Value.nilIface }
  | 21 => some { d := TD.int IntKind.i32, size := 1, bytes := 4, zero := Value.int IntKind.i32 0 }
  | 22 => some { d := TD.int IntKind.u32, size := 1, bytes := 4, zero := Value.int IntKind.u32 0 }
  | 23 => some { d := TD.struct [(0, 3), (1, 3), (2, 3), (3, 3), (4, 3), (5, 22), (6, 4), (7, 4)], size := 8, bytes := 48, zero := Value.agg #[Value.int IntKind.i64 0, Value.int IntKind.i64 0, Value.int IntKind.i64 0, Value.int IntKind.i64 0, Value.int IntKind.i64 0, Value.int IntKind.u32 0, Value.bool false, Value.bool false] }
  | 24 => some { d := TD.struct [(0, 3), (1, 3), (2, 3), (3, 3), (4, 3), (5, 22), (6, 4), (7, 4)], size := 8, bytes := 48, zero := Value.agg #[Value.int IntKind.i64 0, Value.int IntKind.i64 0, Value.int IntKind.i64 0, Value.int IntKind.i64 0, Value.int IntKind.i64 0, Value.int IntKind.u32 0, Value.bool false, Value.bool false] }
  | 25 => some { d := TD.func, size := 1, bytes := 8, zero := Value.nilFunc }
  | 26 => some { d := TD.iface, size := 1, bytes := 16, zero := Value.nilIface }
  | 27 => some { d := TD.iface, size := 1, bytes := 16, zero := Value.nilIface }
  | 29 => some { d := TD.func, size := 1, bytes := 8, zero := Value.nilFunc }
  | 31 => some { d := TD.func, size := 1, bytes := 8, zero := Value.nilFunc }
  | 32 => some { d := TD.func, size := 1, bytes := 8, zero := Value.nilFunc }
  | 34 => some { d := TD.func, size := 1, bytes := 8, zero := Value.nilFunc }
  | 36 => some { d := TD.func, size := 1, bytes := 8, zero := Value.nilFunc }
  | 37 => some { d := TD.func, size := 1, bytes := 8, zero := Value.nilFunc }
  | 38 => some { d := TD.func, size := 1, bytes := 8, zero := Value.nilFunc }
  | 39 => some { d := TD.func, size := 1, bytes := 8, zero := Value.nilFunc }
  | 40 => some { d := TD.slice 22, size := 1, bytes := 24, zero := Value.slice none 0 0 }
  | 41 => some { d := TD.slice 9, size := 1, bytes := 24, zero := Value.slice none 0 0 }
  | 42 => some { d := TD.func, size := 1, bytes := 8, zero := Value.nilFunc }
  | 44 => some { d := TD.func, size := 1, bytes := 8, zero := Value.nilFunc }
  | 45 => some { d := TD.func, size := 1, bytes := 8, zero := Value.nilFunc }
  | 46 => some { d := TD.func, size := 1, bytes := 8, zero := Value.nilFunc }
  | 47 => some { d := TD.slice 3, size := 1, bytes := 24, zero := Value.slice none 0 0 }
  | 48 => some { d := TD.struct [(0, 3), (1, 47)], size := 2, bytes := 32, zero := Value.agg #[Value.int IntKind.i64 0, Value.slice none 0 0] }
  | 49 => some { d := TD.struct [(0, 3), (1, 47)], size := 2, bytes := 32, zero := Value.agg #[Value.int IntKind.i64 0, Value.slice none 0 0] }
  | 50 => some { d := TD.func, size := 1, bytes := 8, zero := Value.nilFunc }
  | 51 => some { d := TD.func, size := 1, bytes := 8, zero := Value.nilFunc }
  | 52 => some { d := TD.func, size := 1, bytes := 8, zero := Value.nilFunc }
  | 53 => some { d := TD.func, size := 1, bytes := 8, zero := Value.nilFunc }
  | 54 => some { d := TD.slice 5, size := 1, bytes := 24, zero := Value.slice none 0 0 }
  | 55 => some { d := TD.func, size := 1, bytes := 8, zero := Value.nilFunc }
  | 56 => some { d := TD.func, size := 1, bytes := 8, zero := Value.nilFunc }
  | 57 => some { d := TD.int IntKind.u64, size := 1, bytes := 8, zero := Value.int IntKind.u64 0 }
  | 58 => some { d := TD.func, size := 1, bytes := 8, zero := Value.nilFunc }
  | 59 => some { d := TD.func, size := 1, bytes := 8, zero := Value.nilFunc }
  | 60 => some { d := TD.func, size := 1, bytes := 8, zero := Value.nilFunc }
  | 62 => some { d := TD.func, size := 1, bytes := 8, zero := Value.nilFunc }
  | 63 => some { d := TD.func, size := 1, bytes := 8, zero := Value.nilFunc }
  | 64 => some { d := TD.func, size := 1, bytes := 8, zero := Value.nilFunc }
  | 65 => some { d := TD.struct [(0, 3), (1, 9), (2, 22), (3, 22), (4, 22), (5, 4), (6, 4), (7, 5), (8, 4), (9, 4), (10, 4), (11, 4), (12, 22), (13, 4)], size := 14, bytes := 56, zero := Value.agg { toList := [Value.int IntKind.i64 0, Value.string { data := #[] }, Value.int IntKind.u32 0, Value.int IntKind.u32 0, Value.int IntKind.u32 0, Value.bool false, Value.bool false, Value.int IntKind.u8 0, Value.bool false, Value.bool false, Value.bool false, Value.bool false, Value.int IntKind.u32 0, Value.bool false] } }
  | 66 => some { d := TD.struct [(0, 3), (1, 9), (2, 22), (3, 22), (4, 22), (5, 4), (6, 4), (7, 5), (8, 4), (9, 4), (10, 4), (11, 4), (12, 22), (13, 4)], size := 14, bytes := 56, zero := Value.agg { toList := [Value.int IntKind.i64 0, Value.string { data := #[] }, Value.int IntKind.u32 0, Value.int IntKind.u32 0, Value.int IntKind.u32 0, Value.bool false, Value.bool false, Value.int IntKind.u8 0, Value.bool false, Value.bool false, Value.bool false, Value.bool false, Value.int IntKind.u32 0, Value.bool false] } }
  | 68 => some { d := TD.func, size := 1, bytes := 8, zero := Value.nilFunc }
  | 70 => some { d := TD.func, size := 1, bytes := 8, zero := Value.nilFunc }
  | 71 => some { d := TD.func, size := 1, bytes := 8, zero := Value.nilFunc }
  | 72 => some { d := TD.func, size := 1, bytes := 8, zero := Value.nilFunc }
  | 74 => some { d := TD.func, size := 1, bytes := 8, zero := Value.nilFunc }
  | 75 => some { d := TD.func, size := 1, bytes := 8, zero := Value.nilFunc }
  | 77 => some { d := TD.func, size := 1, bytes := 8, zero := Value.nilFunc }
  | 78 => some { d := TD.ptr 80, size := 1, bytes := 8, zero := Value.pointer none }
  | 79 => some { d := TD.struct [(0, 41), (1, 4)], size := 2, bytes := 32, zero := Value.agg #[Value.slice none 0 0, Value.bool false] }
  | 80 => some { d := TD.struct [(0, 41), (1, 4)], size := 2, bytes := 32, zero := Value.agg #[Value.slice none 0 0, Value.bool false] }
  | 81 => some { d := TD.func, size := 1, bytes := 8, zero := Value.nilFunc }
  | 82 => some { d := TD.func, size := 1, bytes := 8, zero := Value.nilFunc }
  | 83 => some { d := TD.ptr 24, size := 1, bytes := 8, zero := Value.pointer none }
  | 84 => some { d := TD.slice 66, size := 1, bytes := 24, zero := Value.slice none 0 0 }
  | 85 => some { d := TD.func, size := 1, bytes := 8, zero := Value.nilFunc }
  | 86 => some { d := TD.func, size := 1, bytes := 8, zero := Value.nilFunc }
  | 87 => some { d := TD.func, size := 1, bytes := 8, zero := Value.nilFunc }
  | 88 => some { d := TD.func, size := 1, bytes := 8, zero := Value.nilFunc }
  | 89 => some { d := TD.ptr 91, size := 1, bytes := 8, zero := Value.pointer none }
  | 90 => some { d := TD.struct [(0, 3), (1, 27)], size := 2, bytes := 24, zero := Value.agg #[Value.int IntKind.i64 0, Value.nilIface] }
  | 91 => some { d := TD.struct [(0, 3), (1, 27)], size := 2, bytes := 24, zero := Value.agg #[Value.int IntKind.i64 0, Value.nilIface] }
  | 92 => some { d := TD.func, size := 1, bytes := 8, zero := Value.nilFunc }
  | 93 => some { d := TD.func, size := 1, bytes := 8, zero := Value.nilFunc }
  | 94 => some { d := TD.func, size := 1, bytes := 8, zero := Value.nilFunc }
  | 95 => some { d := TD.func, size := 1, bytes := 8, zero := Value.nilFunc }
  | 96 => some { d := TD.func, size := 1, bytes := 8, zero := Value.nilFunc }
  | 97 => some { d := TD.struct [(0, 3), (1, 9), (2, 3), (3, 22), (4, 22), (5, 22), (6, 3)], size := 7, bytes := 56, zero := Value.agg { toList := [Value.int IntKind.i64 0, Value.string { data := #[] }, Value.int IntKind.i64 0, Value.int IntKind.u32 0, Value.int IntKind.u32 0, Value.int IntKind.u32 0, Value.int IntKind.i64 0] } }
  | 98 => some { d := TD.struct [(0, 3), (1, 9), (2, 3), (3, 22), (4, 22), (5, 22), (6, 3)], size := 7, bytes := 56, zero := Value.agg { toList := [Value.int IntKind.i64 0, Value.string { data := #[] }, Value.int IntKind.i64 0, Value.int IntKind.u32 0, Value.int IntKind.u32 0, Value.int IntKind.u32 0, Value.int IntKind.i64 0] } }
  | 100 => some { d := TD.func, size := 1, bytes := 8, zero := Value.nilFunc }
  | 102 => some { d := TD.func, size := 1, bytes := 8, zero := Value.nilFunc }
  | 103 => some { d := TD.func, size := 1, bytes := 8, zero := Value.nilFunc }
  | 104 => some { d := TD.func, size := 1, bytes := 8, zero := Value.nilFunc }
  | 105 => some { d := TD.struct [(0, 22), (1, 22), (2, 22), (3, 22), (4, 22), (5, 22)], size := 6, bytes := 24, zero := Value.agg #[Value.int IntKind.u32 0, Value.int IntKind.u32 0, Value.int IntKind.u32 0, Value.int IntKind.u32 0, Value.int IntKind.u32 0, Value.int IntKind.u32 0] }
  | 106 => some { d := TD.struct [(0, 22), (1, 22), (2, 22), (3, 22), (4, 22), (5, 22)], size := 6, bytes := 24, zero := Value.agg #[Value.int IntKind.u32 0, Value.int IntKind.u32 0, Value.int IntKind.u32 0, Value.int IntKind.u32 0, Value.int IntKind.u32 0, Value.int IntKind.u32 0] }
  | 107 => some { d := TD.func, size := 1, bytes := 8, zero := Value.nilFunc }
  | 108 => some { d := TD.ptr 110, size := 1, bytes := 8, zero := Value.pointer none }
  | 109 => some { d := TD.struct [(0, 108), (1, 54)], size := 2, bytes := 32, zero := Value.agg #[Value.pointer none, Value.slice none 0 0] }
  | 110 => some { d := TD.struct [(0, 108), (1, 54)], size := 2, bytes := 32, zero := Value.agg #[Value.pointer none, Value.slice none 0 0] }
  | 111 => some { d := TD.func, size := 1, bytes := 8, zero := Value.nilFunc }
  | 113 => some { d := TD.func, size := 1, bytes := 8, zero := Value.nilFunc }
  | 114 => some { d := TD.func, size := 1, bytes := 8, zero := Value.nilFunc }
  | 115 => some { d := TD.slice 98, size := 1, bytes := 24, zero := Value.slice none 0 0 }
  | 116 => some { d := TD.func, size := 1, bytes := 8, zero := Value.nilFunc }
  | 117 => some { d := TD.func, size := 1, bytes := 8, zero := Value.nilFunc }
  | 118 => some { d := TD.func, size := 1, bytes := 8, zero := Value.nilFunc }
  | 120 => some { d := TD.func, size := 1, bytes := 8, zero := Value.nilFunc }
  | 121 => some { d := TD.func, size := 1, bytes := 8, zero := Value.nilFunc }
  | 122 => some { d := TD.func, size := 1, bytes := 8, zero := Value.nilFunc }
  | 124 => some { d := TD.func, size := 1, bytes := 8, zero := Value.nilFunc }
  | 125 => some { d := TD.func, size := 1, bytes := 8, zero := Value.nilFunc }
  | 126 => some { d := TD.func, size := 1, bytes := 8, zero := Value.nilFunc }
  | 127 => some { d := TD.func, size := 1, bytes := 8, zero := Value.nilFunc }
  | 128 => some { d := TD.func, size := 1, bytes := 8, zero := Value.nilFunc }
  | 129 => some { d := TD.func, size := 1, bytes := 8, zero := Value.nilFunc }
  | 130 => some { d := TD.func, size := 1, bytes := 8, zero := Value.nilFunc }
  | 131 => some { d := TD.func, size := 1, bytes := 8, zero := Value.nilFunc }
  | 132 => some { d := TD.func, size := 1, bytes := 8, zero := Value.nilFunc }
  | 133 => some { d := TD.struct [(0, 3), (1, 3), (2, 22)], size := 3, bytes := 24, zero := Value.agg #[Value.int IntKind.i64 0, Value.int IntKind.i64 0, Value.int IntKind.u32 0] }
  | 134 => some { d := TD.struct [(0, 3), (1, 3), (2, 22)], size := 3, bytes := 24, zero := Value.agg #[Value.int IntKind.i64 0, Value.int IntKind.i64 0, Value.int IntKind.u32 0] }
  | 135 => some { d := TD.func, size := 1, bytes := 8, zero := Value.nilFunc }
  | 136 => some { d := TD.int IntKind.u64, size := 1, bytes := 8, zero := Value.int IntKind.u64 0 }
  | 137 => some { d := TD.func, size := 1, bytes := 8, zero := Value.nilFunc }
  | 138 => some { d := TD.ptr 5, size := 1, bytes := 8, zero := Value.pointer none }
  | 139 => some { d := TD.func, size := 1, bytes := 8, zero := Value.nilFunc }
  | 140 => some { d := TD.func, size := 1, bytes := 8, zero := Value.nilFunc }
  | 141 => some { d := TD.func, size := 1, bytes := 8, zero := Value.nilFunc }
  | 142 => some { d := TD.func, size := 1, bytes := 8, zero := Value.nilFunc }
  | 144 => some { d := TD.func, size := 1, bytes := 8, zero := Value.nilFunc }
  | 146 => some { d := TD.func, size := 1, bytes := 8, zero := Value.nilFunc }
  | 147 => some { d := TD.func, size := 1, bytes := 8, zero := Value.nilFunc }
  | 148 => some { d := TD.func, size := 1, bytes := 8, zero := Value.nilFunc }
  | 149 => some { d := TD.func, size := 1, bytes := 8, zero := Value.nilFunc }
  | 150 => some { d := TD.func, size := 1, bytes := 8, zero := Value.nilFunc }
  | 151 => some { d := TD.func, size := 1, bytes := 8, zero := Value.nilFunc }
  | 152 => some { d := TD.slice 156, size := 1, bytes := 24, zero := Value.slice none 0 0 }
  | 154 => some { d := TD.func, size := 1, bytes := 8, zero := Value.nilFunc }
  | 155 => some { d := TD.struct [(0, 3), (1, 3), (2, 3)], size := 3, bytes := 24, zero := Value.agg #[Value.int IntKind.i64 0, Value.int IntKind.i64 0, Value.int IntKind.i64 0] }
  | 156 => some { d := TD.struct [(0, 3), (1, 3), (2, 3)], size := 3, bytes := 24, zero := Value.agg #[Value.int IntKind.i64 0, Value.int IntKind.i64 0, Value.int IntKind.i64 0] }
  | 157 => some { d := TD.slice 134, size := 1, bytes := 24, zero := Value.slice none 0 0 }
  | 160 => some { d := TD.func, size := 1, bytes := 8, zero := Value.nilFunc }
  | 161 => some { d := TD.array 24 5, size := 24, bytes := 24, zero := Value.agg #[Value.int IntKind.u8 0, Value.int IntKind.u8 0, Value.int IntKind.u8 0, Value.int IntKind.u8 0, Value.int IntKind.u8 0, Value.int IntKind.u8 0, Value.int IntKind.u8 0, Value.int IntKind.u8 0, Value.int IntKind.u8 0, Value.int IntKind.u8 0, Value.int IntKind.u8 0, Value.int IntKind.u8 0, Value.int IntKind.u8 0, Value.int IntKind.u8 0, Value.int IntKind.u8 0, Value.int IntKind.u8 0, Value.int IntKind.u8 0, Value.int IntKind.u8 0, Value.int IntKind.u8 0, Value.int IntKind.u8 0, Value.int IntKind.u8 0, Value.int IntKind.u8 0, Value.int IntKind.u8 0, Value.int IntKind.u8 0] }
  | 162 => some { d := TD.func, size := 1, bytes := 8, zero := Value.nilFunc }
  | 163 => some { d := TD.func, size := 1, bytes := 8, zero := Value.nilFunc }
  | 166 => some { d := TD.func, size := 1, bytes := 8, zero := Value.nilFunc }
  | 168 => some { d := TD.func, size := 1, bytes := 8, zero := Value.nilFunc }
  | 169 => some { d := TD.func, size := 1, bytes := 8, zero := Value.nilFunc }
  | 170 => some { d := TD.slice 27, size := 1, bytes := 24, zero := Value.slice none 0 0 }
  | 171 => some { d := TD.func, size := 1, bytes := 8, zero := Value.nilFunc }
  | 172 => some { d := TD.func, size := 1, bytes := 8, zero := Value.nilFunc }
  | 173 => some { d := TD.func, size := 1, bytes := 8, zero := Value.nilFunc }
  | 174 => some { d := TD.array 20 136, size := 20, bytes := 160, zero := Value.agg #[Value.int IntKind.u64 0, Value.int IntKind.u64 0, Value.int IntKind.u64 0, Value.int IntKind.u64 0, Value.int IntKind.u64 0, Value.int IntKind.u64 0, Value.int IntKind.u64 0, Value.int IntKind.u64 0, Value.int IntKind.u64 0, Value.int IntKind.u64 0, Value.int IntKind.u64 0, Value.int IntKind.u64 0, Value.int IntKind.u64 0, Value.int IntKind.u64 0, Value.int IntKind.u64 0, Value.int IntKind.u64 0, Value.int IntKind.u64 0, Value.int IntKind.u64 0, Value.int IntKind.u64 0, Value.int IntKind.u64 0] }
  | 175 => some { d := TD.array 65 5, size := 65, bytes := 65, zero := Value.agg #[Value.int IntKind.u8 0, Value.int IntKind.u8 0, Value.int IntKind.u8 0, Value.int IntKind.u8 0, Value.int IntKind.u8 0, Value.int IntKind.u8 0, Value.int IntKind.u8 0, Value.int IntKind.u8 0, Value.int IntKind.u8 0, Value.int IntKind.u8 0, Value.int IntKind.u8 0, Value.int IntKind.u8 0, Value.int IntKind.u8 0, Value.int IntKind.u8 0, Value.int IntKind.u8 0, Value.int IntKind.u8 0, Value.int IntKind.u8 0, Value.int IntKind.u8 0, Value.int IntKind.u8 0, Value.int IntKind.u8 0, Value.int IntKind.u8 0, Value.int IntKind.u8 0, Value.int IntKind.u8 0, Value.int IntKind.u8 0, Value.int IntKind.u8 0, Value.int IntKind.u8 0, Value.int IntKind.u8 0, Value.int IntKind.u8 0, Value.int IntKind.u8 0, Value.int IntKind.u8 0, Value.int IntKind.u8 0, Value.int IntKind.u8 0, Value.int IntKind.u8 0, Value.int IntKind.u8 0, Value.int IntKind.u8 0, Value.int IntKind.u8 0, Value.int IntKind.u8 0, Value.int IntKind.u8 0, Value.int IntKind.u8 0, Value.int IntKind.u8 0, Value.int IntKind.u8 0, Value.int IntKind.u8 0, Value.int IntKind.u8 0, Value.int IntKind.u8 0, Value.int IntKind.u8 0, Value.int IntKind.u8 0, Value.int IntKind.u8 0, Value.int IntKind.u8 0, Value.int IntKind.u8 0, Value.int IntKind.u8 0, Value.int IntKind.u8 0, Value.int IntKind.u8 0, Value.int IntKind.u8 0, Value.int IntKind.u8 0, Value.int IntKind.u8 0, Value.int IntKind.u8 0, Value.int IntKind.u8 0, Value.int IntKind.u8 0, Value.int IntKind.u8 0, Value.int IntKind.u8 0, Value.int IntKind.u8 0, Value.int IntKind.u8 0, Value.int IntKind.u8 0, Value.int IntKind.u8 0, Value.int IntKind.u8 0] }
  | 176 => some { d := TD.func, size := 1, bytes := 8, zero := Value.nilFunc }
  | 178 => some { d := TD.func, size := 1, bytes := 8, zero := Value.nilFunc }
  | 179 => some { d := TD.int IntKind.i64, size := 1, bytes := 8, zero := Value.int IntKind.i64 0 }
  | 180 => some { d := TD.ptr 192, size := 1, bytes := 8, zero := Value.pointer none }
  | 181 => some { d := TD.func, size := 1, bytes := 8, zero := Value.nilFunc }
  | 182 => some { d := TD.func, size := 1, bytes := 8, zero := Value.nilFunc }
  | 183 => some { d := TD.func, size := 1, bytes := 8, zero := Value.nilFunc }
  | 184 => some { d := TD.func, size := 1, bytes := 8, zero := Value.nilFunc }
  | 185 => some { d := TD.func, size := 1, bytes := 8, zero := Value.nilFunc }
  | 186 => some { d := TD.array 256 5, size := 256, bytes := 256, zero := Value.agg #[Value.int IntKind.u8 0, Value.int IntKind.u8 0, Value.int IntKind.u8 0, Value.int IntKind.u8 0, Value.int IntKind.u8 0, Value.int IntKind.u8 0, Value.int IntKind.u8 0, Value.int IntKind.u8 0, Value.int IntKind.u8 0, Value.int IntKind.u8 0, Value.int IntKind.u8 0, Value.int IntKind.u8 0, Value.int IntKind.u8 0, Value.int IntKind.u8 0, Value.int IntKind.u8 0, Value.int IntKind.u8 0, Value.int IntKind.u8 0, Value.int IntKind.u8 0, Value.int IntKind.u8 0, Value.int IntKind.u8 0, Value.int IntKind.u8 0, Value.int IntKind.u8 0, Value.int IntKind.u8 0, Value.int IntKind.u8 0, Value.int IntKind.u8 0, Value.int IntKind.u8 0, Value.int IntKind.u8 0, Value.int IntKind.u8 0, Value.int IntKind.u8 0, Value.int IntKind.u8 0, Value.int IntKind.u8 0, Value.int IntKind.u8 0, Value.int IntKind.u8 0, Value.int IntKind.u8 0, Value.int IntKind.u8 0, Value.int IntKind.u8 0, Value.int IntKind.u8 0, Value.int IntKind.u8 0, Value.int IntKind.u8 0, Value.int IntKind.u8 0, Value.int IntKind.u8 0, Value.int IntKind.u8 0, Value.int IntKind.u8 0, Value.int IntKind.u8 0, Value.int IntKind.u8 0, Value.int IntKind.u8 0, Value.int IntKind.u8 0, Value.int IntKind.u8 0, Value.int IntKind.u8 0, Value.int IntKind.u8 0, Value.int IntKind.u8 0, Value.int IntKind.u8 0, Value.int IntKind.u8 0, Value.int IntKind.u8 0, Value.int IntKind.u8 0, Value.int IntKind.u8 0, Value.int IntKind.u8 0, Value.int IntKind.u8 0, Value.int IntKind.u8 0, Value.int IntKind.u8 0, Value.int IntKind.u8 0, Value.int IntKind.u8 0, Value.int IntKind.u8 0, Value.int IntKind.u8 0, Value.int IntKind.u8 0, Value.int IntKind.u8 0, Value.int IntKind.u8 0, Value.int IntKind.u8 0, Value.int IntKind.u8 0, Value.int IntKind.u8 0, Value.int IntKind.u8 0, Value.int IntKind.u8 0, Value.int IntKind.u8 0, Value.int IntKind.u8 0, Value.int IntKind.u8 0, Value.int IntKind.u8 0, Value.int IntKind.u8 0, Value.int IntKind.u8 0, Value.int IntKind.u8 0, Value.int IntKind.u8 0, Value.int IntKind.u8 0, Value.int IntKind.u8 0, Value.int IntKind.u8 0, Value.int IntKind.u8 0, Value.int IntKind.u8 0, Value.int IntKind.u8 0, Value.int IntKind.u8 0, Value.int IntKind.u8 0, Value.int IntKind.u8 0, Value.int IntKind.u8 0, Value.int IntKind.u8 0, Value.int IntKind.u8 0, Value.int IntKind.u8 0, Value.int IntKind.u8 0, Value.int IntKind.u8 0, Value.int IntKind.u8 0, Value.int IntKind.u8 0, Value.int IntKind.u8 0, Value.int IntKind.u8 0, Value.int IntKind.u8 0, Value.int IntKind.u8 0, Value.int IntKind.u8 0, Value.int IntKind.u8 0, Value.int IntKind.u8 0, Value.int IntKind.u8 0, Value.int IntKind.u8 0, Value.int IntKind.u8 0, Value.int IntKind.u8 0, Value.int IntKind.u8 0, Value.int IntKind.u8 0, Value.int IntKind.u8 0, Value.int IntKind.u8 0, Value.int IntKind.u8 0, Value.int IntKind.u8 0, Value.int IntKind.u8 0, Value.int IntKind.u8 0, Value.int IntKind.u8 0, Value.int IntKind.u8 0, Value.int IntKind.u8 0, Value.int IntKind.u8 0, Value.int IntKind.u8 0, Value.int IntKind.u8 0, Value.int IntKind.u8 0, Value.int IntKind.u8 0, Value.int IntKind.u8 0, Value.int IntKind.u8 0, Value.int IntKind.u8 0, Value.int IntKind.u8 0, Value.int IntKind.u8 0, Value.int IntKind.u8 0, Value.int IntKind.u8 0, Value.int IntKind.u8 0, Value.int IntKind.u8 0, Value.int IntKind.u8 0, Value.int IntKind.u8 0, Value.int IntKind.u8 0, Value.int IntKind.u8 0, Value.int IntKind.u8 0, Value.int IntKind.u8 0, Value.int IntKind.u8 0, Value.int IntKind.u8 0, Value.int IntKind.u8 0, Value.int IntKind.u8 0, Value.int IntKind.u8 0, Value.int IntKind.u8 0, Value.int IntKind.u8 0, Value.int IntKind.u8 0, Value.int IntKind.u8 0, Value.int IntKind.u8 0, Value.int IntKind.u8 0, Value.int IntKind.u8 0, Value.int IntKind.u8 0, Value.int IntKind.u8 0, Value.int IntKind.u8 0, Value.int IntKind.u8 0, Value.int IntKind.u8 0, Value.int IntKind.u8 0, Value.int IntKind.u8 0, Value.int IntKind.u8 0, Value.int IntKind.u8 0, Value.int IntKind.u8 0, Value.int IntKind.u8 0, Value.int IntKind.u8 0, Value.int IntKind.u8 0, Value.int IntKind.u8 0, Value.int IntKind.u8 0, Value.int IntKind.u8 0, Value.int IntKind.u8 0, Value.int IntKind.u8 0, Value.int IntKind.u8 0, Value.int IntKind.u8 0, Value.int IntKind.u8 0, Value.int IntKind.u8 0, Value.int IntKind.u8 0, Value.int IntKind.u8 0, Value.int IntKind.u8 0, Value.int IntKind.u8 0, Value.int IntKind.u8 0, Value.int IntKind.u8 0, Value.int IntKind.u8 0, Value.int IntKind.u8 0, Value.int IntKind.u8 0, Value.int IntKind.u8 0, Value.int IntKind.u8 0, Value.int IntKind.u8 0, Value.int IntKind.u8 0, Value.int IntKind.u8 0, Value.int IntKind.u8 0, Value.int IntKind.u8 0, Value.int IntKind.u8 0, Value.int IntKind.u8 0, Value.int IntKind.u8 0, Value.int IntKind.u8 0, Value.int IntKind.u8 0, Value.int IntKind.u8 0, Value.int IntKind.u8 0, Value.int IntKind.u8 0, Value.int IntKind.u8 0, Value.int IntKind.u8 0, Value.int IntKind.u8 0, Value.int IntKind.u8 0, Value.int IntKind.u8 0, Value.int IntKind.u8 0, Value.int IntKind.u8 0, Value.int IntKind.u8 0, Value.int IntKind.u8 0, Value.int IntKind.u8 0, Value.int IntKind.u8 0, Value.int IntKind.u8 0, Value.int IntKind.u8 0, Value.int IntKind.u8 0, Value.int IntKind.u8 0, Value.int IntKind.u8 0, Value.int IntKind.u8 0, Value.int IntKind.u8 0, Value.int IntKind.u8 0, Value.int IntKind.u8 0, Value.int IntKind.u8 0, Value.int IntKind.u8 0, Value.int IntKind.u8 0, Value.int IntKind.u8 0, Value.int IntKind.u8 0, Value.int IntKind.u8 0, Value.int IntKind.u8 0, Value.int IntKind.u8 0, Value.int IntKind.u8 0, Value.int IntKind.u8 0, Value.int IntKind.u8 0, Value.int IntKind.u8 0, Value.int IntKind.u8 0, Value.int IntKind.u8 0, Value.int IntKind.u8 0, Value.int IntKind.u8 0, Value.int IntKind.u8 0, Value.int IntKind.u8 0, Value.int IntKind.u8 0, Value.int IntKind.u8 0, Value.int IntKind.u8 0, Value.int IntKind.u8 0, Value.int IntKind.u8 0, Value.int IntKind.u8 0, Value.int IntKind.u8 0, Value.int IntKind.u8 0, Value.int IntKind.u8 0, Value.int IntKind.u8 0, Value.int IntKind.u8 0, Value.int IntKind.u8 0, Value.int IntKind.u8 0, Value.int IntKind.u8 0, Value.int IntKind.u8 0, Value.int IntKind.u8 0, Value.int IntKind.u8 0, Value.int IntKind.u8 0, Value.int IntKind.u8 0, Value.int IntKind.u8 0, Value.int IntKind.u8 0] }
  | 187 => some { d := TD.struct [(0, 5), (1, 5)], size := 2, bytes := 2, zero := Value.agg #[Value.int IntKind.u8 0, Value.int IntKind.u8 0] }
  | 188 => some { d := TD.struct [(0, 5), (1, 5)], size := 2, bytes := 2, zero := Value.agg #[Value.int IntKind.u8 0, Value.int IntKind.u8 0] }
  | 189 => some { d := TD.array 16 188, size := 32, bytes := 32, zero := Value.agg #[Value.int IntKind.u8 0, Value.int IntKind.u8 0, Value.int IntKind.u8 0, Value.int IntKind.u8 0, Value.int IntKind.u8 0, Value.int IntKind.u8 0, Value.int IntKind.u8 0, Value.int IntKind.u8 0, Value.int IntKind.u8 0, Value.int IntKind.u8 0, Value.int IntKind.u8 0, Value.int IntKind.u8 0, Value.int IntKind.u8 0, Value.int IntKind.u8 0, Value.int IntKind.u8 0, Value.int IntKind.u8 0, Value.int IntKind.u8 0, Value.int IntKind.u8 0, Value.int IntKind.u8 0, Value.int IntKind.u8 0, Value.int IntKind.u8 0, Value.int IntKind.u8 0, Value.int IntKind.u8 0, Value.int IntKind.u8 0, Value.int IntKind.u8 0, Value.int IntKind.u8 0, Value.int IntKind.u8 0, Value.int IntKind.u8 0, Value.int IntKind.u8 0, Value.int IntKind.u8 0, Value.int IntKind.u8 0, Value.int IntKind.u8 0] }
  | 190 => some { d := TD.func, size := 1, bytes := 8, zero := Value.nilFunc }
  | 191 => some { d := TD.struct [(0, 9), (1, 9), (2, 27)], size := 3, bytes := 48, zero := Value.agg { toList := [Value.string { data := #[] }, Value.string { data := #[] }, Value.nilIface] } }
  | 192 => some { d := TD.struct [(0, 9), (1, 9), (2, 27)], size := 3, bytes := 48, zero := Value.agg { toList := [Value.string { data := #[] }, Value.string { data := #[] }, Value.nilIface] } }
  | 193 => some { d := TD.func, size := 1, bytes := 8, zero := Value.nilFunc }
  | 194 => some { d := TD.array 32 5, size := 32, bytes := 32, zero := Value.agg #[Value.int IntKind.u8 0, Value.int IntKind.u8 0, Value.int IntKind.u8 0, Value.int IntKind.u8 0, Value.int IntKind.u8 0, Value.int IntKind.u8 0, Value.int IntKind.u8 0, Value.int IntKind.u8 0, Value.int IntKind.u8 0, Value.int IntKind.u8 0, Value.int IntKind.u8 0, Value.int IntKind.u8 0, Value.int IntKind.u8 0, Value.int IntKind.u8 0, Value.int IntKind.u8 0, Value.int IntKind.u8 0, Value.int IntKind.u8 0, Value.int IntKind.u8 0, Value.int IntKind.u8 0, Value.int IntKind.u8 0, Value.int IntKind.u8 0, Value.int IntKind.u8 0, Value.int IntKind.u8 0, Value.int IntKind.u8 0, Value.int IntKind.u8 0, Value.int IntKind.u8 0, Value.int IntKind.u8 0, Value.int IntKind.u8 0, Value.int IntKind.u8 0, Value.int IntKind.u8 0, Value.int IntKind.u8 0, Value.int IntKind.u8 0] }
  | 195 => some { d := TD.array 64 5, size := 64, bytes := 64, zero := Value.agg #[Value.int IntKind.u8 0, Value.int IntKind.u8 0, Value.int IntKind.u8 0, Value.int IntKind.u8 0, Value.int IntKind.u8 0, Value.int IntKind.u8 0, Value.int IntKind.u8 0, Value.int IntKind.u8 0, Value.int IntKind.u8 0, Value.int IntKind.u8 0, Value.int IntKind.u8 0, Value.int IntKind.u8 0, Value.int IntKind.u8 0, Value.int IntKind.u8 0, Value.int IntKind.u8 0, Value.int IntKind.u8 0, Value.int IntKind.u8 0, Value.int IntKind.u8 0, Value.int IntKind.u8 0, Value.int IntKind.u8 0, Value.int IntKind.u8 0, Value.int IntKind.u8 0, Value.int IntKind.u8 0, Value.int IntKind.u8 0, Value.int IntKind.u8 0, Value.int IntKind.u8 0, Value.int IntKind.u8 0, Value.int IntKind.u8 0, Value.int IntKind.u8 0, Value.int IntKind.u8 0, Value.int IntKind.u8 0, Value.int IntKind.u8 0, Value.int IntKind.u8 0, Value.int IntKind.u8 0, Value.int IntKind.u8 0, Value.int IntKind.u8 0, Value.int IntKind.u8 0, Value.int IntKind.u8 0, Value.int IntKind.u8 0, Value.int IntKind.u8 0, Value.int IntKind.u8 0, Value.int IntKind.u8 0, Value.int IntKind.u8 0, Value.int IntKind.u8 0, Value.int IntKind.u8 0, Value.int IntKind.u8 0, Value.int IntKind.u8 0, Value.int IntKind.u8 0, Value.int IntKind.u8 0, Value.int IntKind.u8 0, Value.int IntKind.u8 0, Value.int IntKind.u8 0, Value.int IntKind.u8 0, Value.int IntKind.u8 0, Value.int IntKind.u8 0, Value.int IntKind.u8 0, Value.int IntKind.u8 0, Value.int IntKind.u8 0, Value.int IntKind.u8 0, Value.int IntKind.u8 0, Value.int IntKind.u8 0, Value.int IntKind.u8 0, Value.int IntKind.u8 0, Value.int IntKind.u8 0] }
  | 196 => some { d := TD.ptr 198, size := 1, bytes := 8, zero := Value.pointer none }
  | 197 => some { d := TD.struct [(0, 9)], size := 1, bytes := 16, zero := Value.agg { toList := [Value.string { data := #[] }] } }
  | 198 => some { d := TD.struct [(0, 9)], size := 1, bytes := 16, zero := Value.agg { toList := [Value.string { data := #[] }] } }
  | _ => none
set_option maxRecDepth 100000 in
set_option maxHeartbeats 4000000 in
theorem tabOK : TabOK Tryz.prog tab := by
  intro t i h
  unfold tab at h
  split at h
  all_goals first
    | cases h; done
    | (rw [← h]; kernel_rfl)
noncomputable def fns : FuncId → Option Func
  | 3 => some Tryz.f3
  | 4 => some Tryz.f4
  | 5 => some Tryz.f5
  | 6 => some Tryz.f6
  | 8 => some Tryz.f8
  | 9 => some Tryz.f9
  | 10 => some Tryz.f10
  | 11 => some Tryz.f11
  | 12 => some Tryz.f12
  | 13 => some Tryz.f13
  | 14 => some Tryz.f14
  | 15 => some Tryz.f15
  | 16 => some Tryz.f16
  | 17 => some Tryz.f17
  | 18 => some Tryz.f18
  | 19 => some Tryz.f19
  | 20 => some Tryz.f20
  | 21 => some Tryz.f21
  | 22 => some Tryz.f22
  | 23 => some Tryz.f23
  | 24 => some Tryz.f24
  | 25 => some Tryz.f25
  | 26 => some Tryz.f26
  | 27 => some Tryz.f27
  | 29 => some Tryz.f29
  | 30 => some Tryz.f30
  | 31 => some Tryz.f31
  | 32 => some Tryz.f32
  | 33 => some Tryz.f33
  | 35 => some Tryz.f35
  | 36 => some Tryz.f36
  | 38 => some Tryz.f38
  | 41 => some Tryz.f41
  | 42 => some Tryz.f42
  | 43 => some Tryz.f43
  | 44 => some Tryz.f44
  | 45 => some Tryz.f45
  | 46 => some Tryz.f46
  | 47 => some Tryz.f47
  | 48 => some Tryz.f48
  | 49 => some Tryz.f49
  | 50 => some Tryz.f50
  | 51 => some Tryz.f51
  | 52 => some Tryz.f52
  | 53 => some Tryz.f53
  | 54 => some Tryz.f54
  | 55 => some Tryz.f55
  | 56 => some Tryz.f56
  | 57 => some Tryz.f57
  | 58 => some Tryz.f58
  | 59 => some Tryz.f59
  | 60 => some Tryz.f60
  | 61 => some Tryz.f61
  | 62 => some Tryz.f62
  | 66 => some Tryz.f66
  | 69 => some Tryz.f69
  | 72 => some Tryz.f72
  | 73 => some Tryz.f73
  | 74 => some Tryz.f74
  | 75 => some Tryz.f75
  | 76 => some Tryz.f76
  | 77 => some Tryz.f77
  | 78 => some Tryz.f78
  | 79 => some Tryz.f79
  | 80 => some Tryz.f80
  | 81 => some Tryz.f81
  | 82 => some Tryz.f82
  | 83 => some Tryz.f83
  | 84 => some Tryz.f84
  | 85 => some Tryz.f85
  | 86 => some Tryz.f86
  | 87 => some Tryz.f87
  | 88 => some Tryz.f88
  | 89 => some Tryz.f89
  | 90 => some Tryz.f90
  | 92 => some Tryz.f92
  | 95 => some Tryz.f95
  | 106 => some Tryz.f106
  | 107 => some Tryz.f107
  | 108 => some Tryz.f108
  | 109 => some Tryz.f109
  | 110 => some Tryz.f110
  | 111 => some Tryz.f111
  | 112 => some Tryz.f112
  | 132 => some Tryz.f132
  | 133 => some Tryz.f133
  | 134 => some Tryz.f134
  | _ => none
def drs : FuncId → Nat → Draw
  | 5, 11 => .sched [0, 1, 2, 3, 7, 8, 9] [4, 5, 6, 10, 11]
  | 5, 13 => .sched [0, 1, 2, 3, 7, 8, 9, 10] [4, 5, 6, 11, 12]
  | 12, 11 => .sched [0, 1] [2, 3]
  | 12, 15 => .sched [0, 1] [2, 3]
  | 13, 16 => .one [0, 1, 2, 3, 4, 5, 6, 7, 8] 9 [10]
  | 27, 6 => .tail 7
  | 27, 8 => .tail 6
  | 27, 10 => .tail 11
  | 27, 14 => .tail 9
  | 27, 16 => .tail 8
  | 27, 24 => .tail 6
  | 27, 28 => .tail 7
  | 27, 32 => .tail 7
  | 27, 34 => .tail 7
  | 27, 37 => .tail 9
  | 27, 39 => .tail 11
  | 27, 41 => .tail 11
  | 27, 43 => .tail 10
  | 27, 45 => .tail 9
  | 27, 46 => .tail 9
  | 84, 9 => .sched [0, 1, 2, 3, 4, 5, 7, 8] [6, 9, 10, 11]
  | _, _ => .quiet
def keeps : FuncId → Nat → Bool
  | 3 => fun t => Nat.blt t 16
  | 4 => fun t => Nat.blt t 10
  | 5 => fun t => Nat.blt t 21
  | 6 => fun t => Nat.blt t 15
  | 8 => fun t => Nat.blt t 6
  | 9 => fun t => Nat.blt t 8
  | 10 => fun t => Nat.blt t 8
  | 11 => fun t => Nat.blt t 9
  | 12 => fun t => Nat.blt t 11
  | 13 => fun t => Nat.blt t 13
  | 14 => fun t => Nat.blt t 5
  | 15 => fun t => Nat.blt t 5
  | 16 => fun t => Nat.blt t 10 || Nat.beq t 10 || Nat.beq t 11 || Nat.beq t 12
  | 17 => fun t => Nat.blt t 11 || Nat.beq t 11 || Nat.beq t 12 || Nat.beq t 13
  | 18 => fun t => Nat.blt t 8
  | 19 => fun t => Nat.blt t 6
  | 20 => fun t => Nat.blt t 5
  | 21 => fun t => Nat.blt t 3
  | 22 => fun t => Nat.blt t 7
  | 23 => fun t => Nat.blt t 3
  | 24 => fun t => Nat.blt t 7
  | 25 => fun t => Nat.blt t 16 || Nat.beq t 31 || Nat.beq t 32 || Nat.beq t 33
  | 26 => fun t => Nat.blt t 5
  | 27 => fun t => Nat.blt t 5 || Nat.beq t 11 || Nat.beq t 122
  | 29 => fun t => Nat.blt t 6
  | 30 => fun t => Nat.blt t 6 || Nat.beq t 6
  | 31 => fun t => Nat.blt t 3
  | 32 => fun t => Nat.blt t 8
  | 33 => fun t => Nat.blt t 3
  | 35 => fun t => Nat.blt t 3
  | 36 => fun t => Nat.blt t 9
  | 38 => fun t => Nat.blt t 5 || Nat.beq t 5 || Nat.beq t 6 || Nat.beq t 7
  | 41 => fun t => Nat.blt t 4 || Nat.beq t 7
  | 42 => fun t => Nat.blt t 1
  | 43 => fun t => Nat.blt t 9
  | 44 => fun t => Nat.blt t 11
  | 45 => fun t => Nat.blt t 3
  | 46 => fun t => Nat.blt t 6 || Nat.beq t 6 || Nat.beq t 7 || Nat.beq t 8
  | 47 => fun t => Nat.blt t 7 || Nat.beq t 10 || Nat.beq t 11
  | 48 => fun t => Nat.blt t 7
  | 49 => fun t => Nat.blt t 5 || Nat.beq t 5
  | 50 => fun t => Nat.blt t 3
  | 51 => fun t => Nat.blt t 6
  | 52 => fun t => Nat.blt t 1
  | 53 => fun t => Nat.blt t 4
  | 54 => fun t => Nat.blt t 7
  | 55 => fun t => Nat.blt t 6 || Nat.beq t 7
  | 56 => fun t => Nat.blt t 3
  | 57 => fun t => Nat.blt t 3
  | 58 => fun t => Nat.blt t 3
  | 59 => fun t => Nat.blt t 3
  | 60 => fun t => Nat.blt t 3
  | 61 => fun t => Nat.blt t 7
  | 62 => fun t => Nat.blt t 5
  | 66 => fun t => Nat.blt t 7 || Nat.beq t 7
  | 69 => fun t => Nat.blt t 1
  | 72 => fun t => Nat.blt t 9
  | 73 => fun t => Nat.blt t 4
  | 74 => fun t => Nat.blt t 7
  | 75 => fun t => Nat.blt t 9
  | 76 => fun t => Nat.blt t 11
  | 77 => fun t => Nat.blt t 6
  | 78 => fun t => Nat.blt t 17 || Nat.beq t 43
  | 79 => fun t => Nat.blt t 7
  | 80 => fun t => Nat.blt t 10
  | 81 => fun t => Nat.blt t 6 || Nat.beq t 21
  | 82 => fun t => Nat.blt t 11 || Nat.beq t 44
  | 83 => fun t => Nat.blt t 5 || Nat.beq t 5
  | 84 => fun t => Nat.blt t 7 || Nat.beq t 14 || Nat.beq t 17
  | 85 => fun t => Nat.blt t 7
  | 86 => fun t => Nat.blt t 4
  | 87 => fun t => Nat.blt t 5
  | 88 => fun t => Nat.blt t 11 || Nat.beq t 16 || Nat.beq t 17 || Nat.beq t 18
  | 89 => fun t => Nat.blt t 3 || Nat.beq t 4
  | 90 => fun t => Nat.blt t 6 || Nat.beq t 6 || Nat.beq t 7 || Nat.beq t 8
  | 92 => fun t => Nat.blt t 3
  | 95 => fun t => Nat.blt t 7
  | 106 => fun t => Nat.blt t 3
  | 107 => fun t => Nat.blt t 5 || Nat.beq t 6
  | 108 => fun t => Nat.blt t 6
  | 109 => fun t => Nat.blt t 5
  | 110 => fun t => Nat.blt t 6 || Nat.beq t 7 || Nat.beq t 8
  | 111 => fun t => Nat.blt t 4 || Nat.beq t 4
  | 112 => fun t => Nat.blt t 10 || Nat.beq t 15 || Nat.beq t 16 || Nat.beq t 17
  | 132 => fun t => Nat.blt t 1
  | 133 => fun t => Nat.blt t 5
  | 134 => fun t => Nat.blt t 5
  | _ => fun _ => false
def ghs : FuncId → Bool
  | 69 => true
  | 27 => true
  | 132 => true
  | 42 => true
  | 54 => true
  | _ => false
def bodyOK (dr : Nat → Draw) (fn : Func) : Bool := match fn.body with
  | some c => drawsOK dr c && fn.name != "runtime.NumGoroutine"
  | none => false
theorem bodyOK_spec {dr : Nat → Draw} {fn : Func} (h : bodyOK dr fn = true) : fn.name ≠ "runtime.NumGoroutine" ∧ (∀ c, fn.body = some c → drawsOK dr c = true) ∧ fn.body.isSome = true := by
  unfold bodyOK at h
  split at h
  · rename_i c hc
    simp only [Bool.and_eq_true, bne_iff_ne, ne_eq] at h
    exact ⟨h.2, fun c' hc' => by rw [hc] at hc'; cases hc'; exact h.1, by rw [hc]; rfl⟩
  · cases h
set_option maxRecDepth 100000 in
theorem fnsOK : ∀ f fn, fns f = some fn → Tryz.prog.funcs[f]? = some fn ∧ bodyOK (drs f) fn = true := by
  intro f fn h
  unfold fns at h
  split at h
  all_goals first
    | (cases h; done)
    | (have e : Tryz.f3 = fn := Option.some.inj h; subst e; exact ⟨Tryz.func3, by kernel_rfl⟩)
    | (have e : Tryz.f4 = fn := Option.some.inj h; subst e; exact ⟨Tryz.func4, by kernel_rfl⟩)
    | (have e : Tryz.f5 = fn := Option.some.inj h; subst e; exact ⟨Tryz.func5, by kernel_rfl⟩)
    | (have e : Tryz.f6 = fn := Option.some.inj h; subst e; exact ⟨Tryz.func6, by kernel_rfl⟩)
    | (have e : Tryz.f8 = fn := Option.some.inj h; subst e; exact ⟨Tryz.func8, by kernel_rfl⟩)
    | (have e : Tryz.f9 = fn := Option.some.inj h; subst e; exact ⟨Tryz.func9, by kernel_rfl⟩)
    | (have e : Tryz.f10 = fn := Option.some.inj h; subst e; exact ⟨Tryz.func10, by kernel_rfl⟩)
    | (have e : Tryz.f11 = fn := Option.some.inj h; subst e; exact ⟨Tryz.func11, by kernel_rfl⟩)
    | (have e : Tryz.f12 = fn := Option.some.inj h; subst e; exact ⟨Tryz.func12, by kernel_rfl⟩)
    | (have e : Tryz.f13 = fn := Option.some.inj h; subst e; exact ⟨Tryz.func13, by kernel_rfl⟩)
    | (have e : Tryz.f14 = fn := Option.some.inj h; subst e; exact ⟨Tryz.func14, by kernel_rfl⟩)
    | (have e : Tryz.f15 = fn := Option.some.inj h; subst e; exact ⟨Tryz.func15, by kernel_rfl⟩)
    | (have e : Tryz.f16 = fn := Option.some.inj h; subst e; exact ⟨Tryz.func16, by kernel_rfl⟩)
    | (have e : Tryz.f17 = fn := Option.some.inj h; subst e; exact ⟨Tryz.func17, by kernel_rfl⟩)
    | (have e : Tryz.f18 = fn := Option.some.inj h; subst e; exact ⟨Tryz.func18, by kernel_rfl⟩)
    | (have e : Tryz.f19 = fn := Option.some.inj h; subst e; exact ⟨Tryz.func19, by kernel_rfl⟩)
    | (have e : Tryz.f20 = fn := Option.some.inj h; subst e; exact ⟨Tryz.func20, by kernel_rfl⟩)
    | (have e : Tryz.f21 = fn := Option.some.inj h; subst e; exact ⟨Tryz.func21, by kernel_rfl⟩)
    | (have e : Tryz.f22 = fn := Option.some.inj h; subst e; exact ⟨Tryz.func22, by kernel_rfl⟩)
    | (have e : Tryz.f23 = fn := Option.some.inj h; subst e; exact ⟨Tryz.func23, by kernel_rfl⟩)
    | (have e : Tryz.f24 = fn := Option.some.inj h; subst e; exact ⟨Tryz.func24, by kernel_rfl⟩)
    | (have e : Tryz.f25 = fn := Option.some.inj h; subst e; exact ⟨Tryz.func25, by kernel_rfl⟩)
    | (have e : Tryz.f26 = fn := Option.some.inj h; subst e; exact ⟨Tryz.func26, by kernel_rfl⟩)
    | (have e : Tryz.f27 = fn := Option.some.inj h; subst e; exact ⟨Tryz.func27, by kernel_rfl⟩)
    | (have e : Tryz.f29 = fn := Option.some.inj h; subst e; exact ⟨Tryz.func29, by kernel_rfl⟩)
    | (have e : Tryz.f30 = fn := Option.some.inj h; subst e; exact ⟨Tryz.func30, by kernel_rfl⟩)
    | (have e : Tryz.f31 = fn := Option.some.inj h; subst e; exact ⟨Tryz.func31, by kernel_rfl⟩)
    | (have e : Tryz.f32 = fn := Option.some.inj h; subst e; exact ⟨Tryz.func32, by kernel_rfl⟩)
    | (have e : Tryz.f33 = fn := Option.some.inj h; subst e; exact ⟨Tryz.func33, by kernel_rfl⟩)
    | (have e : Tryz.f35 = fn := Option.some.inj h; subst e; exact ⟨Tryz.func35, by kernel_rfl⟩)
    | (have e : Tryz.f36 = fn := Option.some.inj h; subst e; exact ⟨Tryz.func36, by kernel_rfl⟩)
    | (have e : Tryz.f38 = fn := Option.some.inj h; subst e; exact ⟨Tryz.func38, by kernel_rfl⟩)
    | (have e : Tryz.f41 = fn := Option.some.inj h; subst e; exact ⟨Tryz.func41, by kernel_rfl⟩)
    | (have e : Tryz.f42 = fn := Option.some.inj h; subst e; exact ⟨Tryz.func42, by kernel_rfl⟩)
    | (have e : Tryz.f43 = fn := Option.some.inj h; subst e; exact ⟨Tryz.func43, by kernel_rfl⟩)
    | (have e : Tryz.f44 = fn := Option.some.inj h; subst e; exact ⟨Tryz.func44, by kernel_rfl⟩)
    | (have e : Tryz.f45 = fn := Option.some.inj h; subst e; exact ⟨Tryz.func45, by kernel_rfl⟩)
    | (have e : Tryz.f46 = fn := Option.some.inj h; subst e; exact ⟨Tryz.func46, by kernel_rfl⟩)
    | (have e : Tryz.f47 = fn := Option.some.inj h; subst e; exact ⟨Tryz.func47, by kernel_rfl⟩)
    | (have e : Tryz.f48 = fn := Option.some.inj h; subst e; exact ⟨Tryz.func48, by kernel_rfl⟩)
    | (have e : Tryz.f49 = fn := Option.some.inj h; subst e; exact ⟨Tryz.func49, by kernel_rfl⟩)
    | (have e : Tryz.f50 = fn := Option.some.inj h; subst e; exact ⟨Tryz.func50, by kernel_rfl⟩)
    | (have e : Tryz.f51 = fn := Option.some.inj h; subst e; exact ⟨Tryz.func51, by kernel_rfl⟩)
    | (have e : Tryz.f52 = fn := Option.some.inj h; subst e; exact ⟨Tryz.func52, by kernel_rfl⟩)
    | (have e : Tryz.f53 = fn := Option.some.inj h; subst e; exact ⟨Tryz.func53, by kernel_rfl⟩)
    | (have e : Tryz.f54 = fn := Option.some.inj h; subst e; exact ⟨Tryz.func54, by kernel_rfl⟩)
    | (have e : Tryz.f55 = fn := Option.some.inj h; subst e; exact ⟨Tryz.func55, by kernel_rfl⟩)
    | (have e : Tryz.f56 = fn := Option.some.inj h; subst e; exact ⟨Tryz.func56, by kernel_rfl⟩)
    | (have e : Tryz.f57 = fn := Option.some.inj h; subst e; exact ⟨Tryz.func57, by kernel_rfl⟩)
    | (have e : Tryz.f58 = fn := Option.some.inj h; subst e; exact ⟨Tryz.func58, by kernel_rfl⟩)
    | (have e : Tryz.f59 = fn := Option.some.inj h; subst e; exact ⟨Tryz.func59, by kernel_rfl⟩)
    | (have e : Tryz.f60 = fn := Option.some.inj h; subst e; exact ⟨Tryz.func60, by kernel_rfl⟩)
    | (have e : Tryz.f61 = fn := Option.some.inj h; subst e; exact ⟨Tryz.func61, by kernel_rfl⟩)
    | (have e : Tryz.f62 = fn := Option.some.inj h; subst e; exact ⟨Tryz.func62, by kernel_rfl⟩)
    | (have e : Tryz.f66 = fn := Option.some.inj h; subst e; exact ⟨Tryz.func66, by kernel_rfl⟩)
    | (have e : Tryz.f69 = fn := Option.some.inj h; subst e; exact ⟨Tryz.func69, by kernel_rfl⟩)
    | (have e : Tryz.f72 = fn := Option.some.inj h; subst e; exact ⟨Tryz.func72, by kernel_rfl⟩)
    | (have e : Tryz.f73 = fn := Option.some.inj h; subst e; exact ⟨Tryz.func73, by kernel_rfl⟩)
    | (have e : Tryz.f74 = fn := Option.some.inj h; subst e; exact ⟨Tryz.func74, by kernel_rfl⟩)
    | (have e : Tryz.f75 = fn := Option.some.inj h; subst e; exact ⟨Tryz.func75, by kernel_rfl⟩)
    | (have e : Tryz.f76 = fn := Option.some.inj h; subst e; exact ⟨Tryz.func76, by kernel_rfl⟩)
    | (have e : Tryz.f77 = fn := Option.some.inj h; subst e; exact ⟨Tryz.func77, by kernel_rfl⟩)
    | (have e : Tryz.f78 = fn := Option.some.inj h; subst e; exact ⟨Tryz.func78, by kernel_rfl⟩)
    | (have e : Tryz.f79 = fn := Option.some.inj h; subst e; exact ⟨Tryz.func79, by kernel_rfl⟩)
    | (have e : Tryz.f80 = fn := Option.some.inj h; subst e; exact ⟨Tryz.func80, by kernel_rfl⟩)
    | (have e : Tryz.f81 = fn := Option.some.inj h; subst e; exact ⟨Tryz.func81, by kernel_rfl⟩)
    | (have e : Tryz.f82 = fn := Option.some.inj h; subst e; exact ⟨Tryz.func82, by kernel_rfl⟩)
    | (have e : Tryz.f83 = fn := Option.some.inj h; subst e; exact ⟨Tryz.func83, by kernel_rfl⟩)
    | (have e : Tryz.f84 = fn := Option.some.inj h; subst e; exact ⟨Tryz.func84, by kernel_rfl⟩)
    | (have e : Tryz.f85 = fn := Option.some.inj h; subst e; exact ⟨Tryz.func85, by kernel_rfl⟩)
    | (have e : Tryz.f86 = fn := Option.some.inj h; subst e; exact ⟨Tryz.func86, by kernel_rfl⟩)
    | (have e : Tryz.f87 = fn := Option.some.inj h; subst e; exact ⟨Tryz.func87, by kernel_rfl⟩)
    | (have e : Tryz.f88 = fn := Option.some.inj h; subst e; exact ⟨Tryz.func88, by kernel_rfl⟩)
    | (have e : Tryz.f89 = fn := Option.some.inj h; subst e; exact ⟨Tryz.func89, by kernel_rfl⟩)
    | (have e : Tryz.f90 = fn := Option.some.inj h; subst e; exact ⟨Tryz.func90, by kernel_rfl⟩)
    | (have e : Tryz.f92 = fn := Option.some.inj h; subst e; exact ⟨Tryz.func92, by kernel_rfl⟩)
    | (have e : Tryz.f95 = fn := Option.some.inj h; subst e; exact ⟨Tryz.func95, by kernel_rfl⟩)
    | (have e : Tryz.f106 = fn := Option.some.inj h; subst e; exact ⟨Tryz.func106, by kernel_rfl⟩)
    | (have e : Tryz.f107 = fn := Option.some.inj h; subst e; exact ⟨Tryz.func107, by kernel_rfl⟩)
    | (have e : Tryz.f108 = fn := Option.some.inj h; subst e; exact ⟨Tryz.func108, by kernel_rfl⟩)
    | (have e : Tryz.f109 = fn := Option.some.inj h; subst e; exact ⟨Tryz.func109, by kernel_rfl⟩)
    | (have e : Tryz.f110 = fn := Option.some.inj h; subst e; exact ⟨Tryz.func110, by kernel_rfl⟩)
    | (have e : Tryz.f111 = fn := Option.some.inj h; subst e; exact ⟨Tryz.func111, by kernel_rfl⟩)
    | (have e : Tryz.f112 = fn := Option.some.inj h; subst e; exact ⟨Tryz.func112, by kernel_rfl⟩)
    | (have e : Tryz.f132 = fn := Option.some.inj h; subst e; exact ⟨Tryz.func132, by kernel_rfl⟩)
    | (have e : Tryz.f133 = fn := Option.some.inj h; subst e; exact ⟨Tryz.func133, by kernel_rfl⟩)
    | (have e : Tryz.f134 = fn := Option.some.inj h; subst e; exact ⟨Tryz.func134, by kernel_rfl⟩)
/-- The context, with what is known of calls. -/
noncomputable def ctx (Φ : Oracle) : Ctx := { T := tab, Fn := fns, Φ := Φ, dr := drs, keep := keeps, gh := ghs, gB := false }
theorem mixed : Tryz.prog.follows .mixedOrders = true := by kernel_rfl
theorem enters0 (f : FuncId) (h : (fns f).isSome = true) : Enters Tryz.prog f := by
  obtain ⟨fn, hf⟩ := Option.isSome_iff_exists.1 h
  obtain ⟨h1, h2⟩ := fnsOK f fn hf
  obtain ⟨h3, h4, h5⟩ := bodyOK_spec h2
  exact ⟨fn, h1, h3, h5⟩
/-- Functions of which only contracts are used. -/
def also : List FuncId := [28, 34, 37, 39, 40, 91, 102, 103, 104, 105]
theorem also_one {f : FuncId} {fn : Func} (h : Tryz.prog.funcs[f]? = some fn) (e : (fn.name == "runtime.NumGoroutine") = false) (hb : fn.body.isSome = true) : Enters Tryz.prog f :=
  ⟨fn, h, fun h => (by rw [h] at e; exact absurd e (by decide)), hb⟩
theorem also_enters : ∀ f ∈ also, Enters Tryz.prog f := by
  intro f h
  simp only [also, List.mem_cons, List.not_mem_nil, or_false] at h
  rcases h with rfl | rfl | rfl | rfl | rfl | rfl | rfl | rfl | rfl | rfl
  · exact also_one Tryz.func28 (by kernel_rfl) (by kernel_rfl)
  · exact also_one Tryz.func34 (by kernel_rfl) (by kernel_rfl)
  · exact also_one Tryz.func37 (by kernel_rfl) (by kernel_rfl)
  · exact also_one Tryz.func39 (by kernel_rfl) (by kernel_rfl)
  · exact also_one Tryz.func40 (by kernel_rfl) (by kernel_rfl)
  · exact also_one Tryz.func91 (by kernel_rfl) (by kernel_rfl)
  · exact also_one Tryz.func102 (by kernel_rfl) (by kernel_rfl)
  · exact also_one Tryz.func103 (by kernel_rfl) (by kernel_rfl)
  · exact also_one Tryz.func104 (by kernel_rfl) (by kernel_rfl)
  · exact also_one Tryz.func105 (by kernel_rfl) (by kernel_rfl)
noncomputable def ent (f : FuncId) : Bool := (fns f).isSome || also.contains f
theorem enters (f : FuncId) (h : ent f = true) : Enters Tryz.prog f := by
  unfold ent at h
  rw [Bool.or_eq_true] at h
  rcases h with h | h
  · exact enters0 f h
  · exact also_enters f (by simpa using h)
theorem ctxOK {Φ : Oracle} (h : ∀ lo f args H l v H', Φ lo f args H = some l → (true, v, H') ∈ l → CallOK Tryz.prog lo f args H v H' ∧ ent f = true) : CtxOK Tryz.prog (ctx Φ) :=
  ⟨tabOK, mixed, fun f fn hf => let ⟨h1, h2⟩ := fnsOK f fn hf; let ⟨h3, h4, _⟩ := bodyOK_spec h2; ⟨h1, h3, h4⟩, fun lo f args H l v H' e m => ⟨(h lo f args H l v H' e m).1, enters f (h lo f args H l v H' e m).2⟩⟩
def noΦ : Oracle := fun _ _ _ _ => none
theorem noOK : CtxOK Tryz.prog (ctx noΦ) := ctxOK fun _ _ _ _ _ _ _ h => by cases h
end Go.Proofs.YtgkicojmgokinaaGreatDoor.Ab
