/- The context of the run over this program: its types, its functions, the tails of its regions that draw. Laid by wip/ab/abctx.py. -/
import Derived.Test.YtbcikaoklpekhaaProg
import Derived.Test.YtbcikaoklpekhaaAb14
import Derived.KernelRfl
namespace Go.Proofs.Ytbcikaoklpekhaa.Ab
open Go Go.RowKit
set_option linter.unusedVariables false
set_option linter.unusedSimpArgs false
def tab : Tab
  | 0 => some { d := TD.other, size := 1, bytes := 0, zero := Value.tuple #[] }
  | 1 => some { d := TD.func, size := 1, bytes := 8, zero := Value.nilFunc }
  | 2 => some { d := TD.int IntKind.i64, size := 1, bytes := 8, zero := Value.int IntKind.i64 0 }
  | 3 => some { d := TD.int IntKind.i64, size := 1, bytes := 8, zero := Value.int IntKind.i64 0 }
  | 4 => some { d := TD.bool, size := 1, bytes := 1, zero := Value.bool false }
  | 5 => some { d := TD.int IntKind.u8, size := 1, bytes := 1, zero := Value.int IntKind.u8 0 }
  | 6 => some { d := TD.int IntKind.u8, size := 1, bytes := 1, zero := Value.int IntKind.u8 0 }
  | 7 => some { d := TD.struct [(0, 2), (1, 3), (2, 4), (3, 6)], size := 4, bytes := 24, zero := Value.agg #[Value.int IntKind.i64 0, Value.int IntKind.i64 0, Value.bool false, Value.int IntKind.u8 0] }
  | 8 => some { d := TD.struct [(0, 2), (1, 3), (2, 4), (3, 6)], size := 4, bytes := 24, zero := Value.agg #[Value.int IntKind.i64 0, Value.int IntKind.i64 0, Value.bool false, Value.int IntKind.u8 0] }
  | 9 => some { d := TD.str, size := 1, bytes := 16, zero := Value.string { data := #[] } }
  | 10 => some { d := TD.str, size := 1, bytes := 16, zero := Value.string { data := #[] } }
  | 11 => some { d := TD.str, size := 1, bytes := 16, zero := Value.string { data := #[] } }
  | 12 => some { d := TD.int IntKind.u64, size := 1, bytes := 8, zero := Value.int IntKind.u64 0 }
  | 13 => some { d := TD.struct [(0, 9), (1, 12)], size := 2, bytes := 24, zero := Value.agg { toList := [Value.string { data := #[] }, Value.int IntKind.u64 0] } }
  | 14 => some { d := TD.struct [(0, 9), (1, 12)], size := 2, bytes := 24, zero := Value.agg { toList := [Value.string { data := #[] }, Value.int IntKind.u64 0] } }
  | 15 => some { d := TD.ptr 129, size := 1, bytes := 8, zero := Value.pointer none }
  | 16 => some { d := TD.ptr 132, size := 1, bytes := 8, zero := Value.pointer none }
  | 17 => some { d := TD.ptr 141, size := 1, bytes := 8, zero := Value.pointer none }
  | 18 => some { d := TD.struct [(0, 17)], size := 1, bytes := 8, zero := Value.agg #[Value.pointer none] }
  | 19 => some { d := TD.struct [(0, 17)], size := 1, bytes := 8, zero := Value.agg #[Value.pointer none] }
  | 20 => some { d := TD.iface, size := 1, bytes := 16, zero := Value.nilIface }
  | 21 => some { d := TD.int IntKind.i32, size := 1, bytes := 4, zero := Value.int IntKind.i32 0 }
  | 22 => some { d := TD.slice 37, size := 1, bytes := 24, zero := Value.slice none 0 0 }
  | 23 => some { d := TD.func, size := 1, bytes := 8, zero := Value.nilFunc }
  | 24 => some { d := TD.func, size := 1, bytes := 8, zero := Value.nilFunc }
  | 25 => some { d := TD.slice 32, size := 1, bytes := 24, zero := Value.slice none 0 0 }
  | 26 => some { d := TD.func, size := 1, bytes := 8, zero := Value.nilFunc }
  | 27 => some { d := TD.func, size := 1, bytes := 8, zero := Value.nilFunc }
  | 28 => some { d := TD.func, size := 1, bytes := 8, zero := Value.nilFunc }
  | 29 => some { d := TD.int IntKind.u32, size := 1, bytes := 4, zero := Value.int IntKind.u32 0 }
  | 30 => some { d := TD.slice 3, size := 1, bytes := 24, zero := Value.slice none 0 0 }
  | 31 => some { d := TD.struct [(0, 3), (1, 3), (2, 29), (3, 29), (4, 29), (5, 4), (6, 4), (7, 4), (8, 3), (9, 3), (10, 30), (11, 30), (12, 30)], size := 13, bytes := 120, zero := Value.agg #[Value.int IntKind.i64 0, Value.int IntKind.i64 0, Value.int IntKind.u32 0, Value.int IntKind.u32 0, Value.int IntKind.u32 0, Value.bool false, Value.bool false, Value.bool false, Value.int IntKind.i64 0, Value.int IntKind.i64 0, Value.slice none 0 0, Value.slice none 0 0, Value.slice none 0 0] }
  | 32 => some { d := TD.struct [(0, 3), (1, 3), (2, 29), (3, 29), (4, 29), (5, 4), (6, 4), (7, 4), (8, 3), (9, 3), (10, 30), (11, 30), (12, 30)], size := 13, bytes := 120, zero := Value.agg #[Value.int IntKind.i64 0, Value.int IntKind.i64 0, Value.int IntKind.u32 0, Value.int IntKind.u32 0, Value.int IntKind.u32 0, Value.bool false, Value.bool false, Value.bool false, Value.int IntKind.i64 0, Value.int IntKind.i64 0, Value.slice none 0 0, Value.slice none 0 0, Value.slice none 0 0] }
  | 33 => some { d := TD.func, size := 1, bytes := 8, zero := Value.nilFunc }
  | 34 => some { d := TD.func, size := 1, bytes := 8, zero := Value.nilFunc }
  | 35 => some { d := TD.func, size := 1, bytes := 8, zero := Value.nilFunc }
  | 36 => some { d := TD.struct [(0, 29), (1, 29), (2, 29), (3, 29), (4, 4), (5, 4)], size := 6, bytes := 20, zero := Value.agg #[Value.int IntKind.u32 0, Value.int IntKind.u32 0, Value.int IntKind.u32 0, Value.int IntKind.u32 0, Value.bool false, Value.bool false] }
  | 37 => some { d := TD.struct [(0, 29), (1, 29), (2, 29), (3, 29), (4, 4), (5, 4)], size := 6, bytes := 20, zero := Value.agg #[Value.int IntKind.u32 0, Value.int IntKind.u32 0, Value.int IntKind.u32 0, Value.int IntKind.u32 0, Value.bool false, Value.bool false] }
  | 38 => some { d := TD.func, size := 1, bytes := 8, zero := Value.nilFunc }
  | 39 => some { d := TD.func, size := 1, bytes := 8, zero := Value.nilFunc }
  | 40 => some { d := TD.int IntKind.u64, size := 1, bytes := 8, zero := Value.int IntKind.u64 0 }
  | 41 => some { d := TD.func, size := 1, bytes := 8, zero := Value.nilFunc }
  | 42 => some { d := TD.func, size := 1, bytes := 8, zero := Value.nilFunc }
  | 43 => some { d := TD.array 32 30, size := 32, bytes := 768, zero := Value.agg #[Value.slice none 0 0, Value.slice none 0 0, Value.slice none 0 0, Value.slice none 0 0, Value.slice none 0 0, Value.slice none 0 0, Value.slice none 0 0, Value.slice none 0 0, Value.slice none 0 0, Value.slice none 0 0, Value.slice none 0 0, Value.slice none 0 0, Value.slice none 0 0, Value.slice none 0 0, Value.slice none 0 0, Value.slice none 0 0, Value.slice none 0 0, Value.slice none 0 0, Value.slice none 0 0, Value.slice none 0 0, Value.slice none 0 0, Value.slice none 0 0, Value.slice none 0 0, Value.slice none 0 0, Value.slice none 0 0, Value.slice none 0 0, Value.slice none 0 0, Value.slice none 0 0, Value.slice none 0 0, Value.slice none 0 0, Value.slice none 0 0, Value.slice none 0 0] }
  | 44 => some { d := TD.struct [(0, 43), (32, 30), (33, 25), (34, 30)], size := 35, bytes := 840, zero := Value.agg #[Value.slice none 0 0, Value.slice none 0 0, Value.slice none 0 0, Value.slice none 0 0, Value.slice none 0 0, Value.slice none 0 0, Value.slice none 0 0, Value.slice none 0 0, Value.slice none 0 0, Value.slice none 0 0, Value.slice none 0 0, Value.slice none 0 0, Value.slice none 0 0, Value.slice none 0 0, Value.slice none 0 0, Value.slice none 0 0, Value.slice none 0 0, Value.slice none 0 0, Value.slice none 0 0, Value.slice none 0 0, Value.slice none 0 0, Value.slice none 0 0, Value.slice none 0 0, Value.slice none 0 0, Value.slice none 0 0, Value.slice none 0 0, Value.slice none 0 0, Value.slice none 0 0, Value.slice none 0 0, Value.slice none 0 0, Value.slice none 0 0, Value.slice none 0 0, Value.slice none 0 0, Value.slice none 0 0, Value.slice none 0 0] }
  | 45 => some { d := TD.struct [(0, 43), (32, 30), (33, 25), (34, 30)], size := 35, bytes := 840, zero := Value.agg #[Value.slice none 0 0, Value.slice none 0 0, Value.slice none 0 0, Value.slice none 0 0, Value.slice none 0 0, Value.slice none 0 0, Value.slice none 0 0, Value.slice none 0 0, Value.slice none 0 0, Value.slice none 0 0, Value.slice none 0 0, Value.slice none 0 0, Value.slice none 0 0, Value.slice none 0 0, Value.slice none 0 0, Value.slice none 0 0, Value.slice none 0 0, Value.slice none 0 0, Value.slice none 0 0, Value.slice none 0 0, Value.slice none 0 0, Value.slice none 0 0, Value.slice none 0 0, Value.slice none 0 0, Value.slice none 0 0, Value.slice none 0 0, Value.slice none 0 0, Value.slice none 0 0, Value.slice none 0 0, Value.slice none 0 0, Value.slice none 0 0, Value.slice none 0 0, Value.slice none 0 0, Value.slice none 0 0, Value.slice none 0 0] }
  | 46 => some { d := TD.ptr 45, size := 1, bytes := 8, zero := Value.pointer none }
  | 47 => some { d := TD.func, size := 1, bytes := 8, zero := Value.nilFunc }
  | 48 => some { d := TD.func, size := 1, bytes := 8, zero := Value.nilFunc }
  | 49 => some { d := TD.func, size := 1, bytes := 8, zero := Value.nilFunc }
  | 50 => some { d := TD.other, size := 1, bytes := 0, zero := Value.tuple #[Value.int IntKind.u32 0, Value.int IntKind.i64 0] }
  | 51 => some { d := TD.func, size := 1, bytes := 8, zero := Value.nilFunc }
  | 52 => some { d := TD.struct [(0, 3), (1, 3), (2, 3), (3, 3), (4, 3), (5, 29), (6, 4), (7, 4)], size := 8, bytes := 48, zero := Value.agg #[Value.int IntKind.i64 0, Value.int IntKind.i64 0, Value.int IntKind.i64 0, Value.int IntKind.i64 0, Value.int IntKind.i64 0, Value.int IntKind.u32 0, Value.bool false, Value.bool false] }
  | 53 => some { d := TD.struct [(0, 3), (1, 3), (2, 3), (3, 3), (4, 3), (5, 29), (6, 4), (7, 4)], size := 8, bytes := 48, zero := Value.agg #[Value.int IntKind.i64 0, Value.int IntKind.i64 0, Value.int IntKind.i64 0, Value.int IntKind.i64 0, Value.int IntKind.i64 0, Value.int IntKind.u32 0, Value.bool false, Value.bool false] }
  | 54 => some { d := TD.func, size := 1, bytes := 8, zero := Value.nilFunc }
  | 55 => some { d := TD.struct [(0, 3), (1, 9), (2, 29), (3, 29), (4, 29), (5, 4), (6, 4), (7, 5), (8, 4), (9, 4), (10, 4), (11, 4), (12, 29), (13, 4)], size := 14, bytes := 56, zero := Value.agg { toList := [Value.int IntKind.i64 0, Value.string { data := #[] }, Value.int IntKind.u32 0, Value.int IntKind.u32 0, Value.int IntKind.u32 0, Value.bool false, Value.bool false, Value.int IntKind.u8 0, Value.bool false, Value.bool false, Value.bool false, Value.bool false, Value.int IntKind.u32 0, Value.bool false] } }
  | 56 => some { d := TD.struct [(0, 3), (1, 9), (2, 29), (3, 29), (4, 29), (5, 4), (6, 4), (7, 5), (8, 4), (9, 4), (10, 4), (11, 4), (12, 29), (13, 4)], size := 14, bytes := 56, zero := Value.agg { toList := [Value.int IntKind.i64 0, Value.string { data := #[] }, Value.int IntKind.u32 0, Value.int IntKind.u32 0, Value.int IntKind.u32 0, Value.bool false, Value.bool false, Value.int IntKind.u8 0, Value.bool false, Value.bool false, Value.bool false, Value.bool false, Value.int IntKind.u32 0, Value.bool false] } }
  | 57 => some { d := TD.other, size := 1, bytes := 0, zero := Value.tuple { toList := [Value.agg { toList := [Value.int IntKind.i64 0, Value.string { data := #[] }, Value.int IntKind.u32 0, Value.int IntKind.u32 0, Value.int IntKind.u32 0, Value.bool false, Value.bool false, Value.int IntKind.u8 0, Value.bool false, Value.bool false, Value.bool false, Value.bool false, Value.int IntKind.u32 0, Value.bool false] }, Value.bool false] } }
  | 58 => some { d := TD.func, size := 1, bytes := 8, zero := Value.nilFunc }
  | 59 => some { d := TD.other, size := 1, bytes := 0, zero := Value.tuple #[Value.int IntKind.u32 0, Value.bool false] }
  | 60 => some { d := TD.func, size := 1, bytes := 8, zero := Value.nilFunc }
  | 61 => some { d := TD.func, size := 1, bytes := 8, zero := Value.nilFunc }
  | 62 => some { d := TD.func, size := 1, bytes := 8, zero := Value.nilFunc }
  | 63 => some { d := TD.other, size := 1, bytes := 0, zero := Value.tuple { toList := [Value.agg #[Value.int IntKind.i64 0, Value.int IntKind.i64 0, Value.int IntKind.i64 0, Value.int IntKind.i64 0, Value.int IntKind.i64 0, Value.int IntKind.u32 0, Value.bool false, Value.bool false], Value.bool false] } }
  | 64 => some { d := TD.func, size := 1, bytes := 8, zero := Value.nilFunc }
  | 65 => some { d := TD.func, size := 1, bytes := 8, zero := Value.nilFunc }
  | 66 => some { d := TD.other, size := 1, bytes := 0, zero := Value.tuple { toList := [Value.agg #[Value.int IntKind.i64 0, Value.int IntKind.i64 0, Value.int IntKind.u32 0, Value.int IntKind.u32 0, Value.int IntKind.u32 0, Value.bool false, Value.bool false, Value.bool false, Value.int IntKind.i64 0, Value.int IntKind.i64 0, Value.slice none 0 0, Value.slice none 0 0, Value.slice none 0 0], Value.bool false] } }
  | 67 => some { d := TD.func, size := 1, bytes := 8, zero := Value.nilFunc }
  | 68 => some { d := TD.func, size := 1, bytes := 8, zero := Value.nilFunc }
  | 69 => some { d := TD.other, size := 1, bytes := 0, zero := Value.tuple #[Value.bool false, Value.bool false, Value.bool false, Value.bool false] }
  | 70 => some { d := TD.func, size := 1, bytes := 8, zero := Value.nilFunc }
  | 71 => some { d := TD.slice 56, size := 1, bytes := 24, zero := Value.slice none 0 0 }
  | 72 => some { d := TD.func, size := 1, bytes := 8, zero := Value.nilFunc }
  | 73 => some { d := TD.slice 76, size := 1, bytes := 24, zero := Value.slice none 0 0 }
  | 74 => some { d := TD.func, size := 1, bytes := 8, zero := Value.nilFunc }
  | 75 => some { d := TD.struct [(0, 3), (1, 9), (2, 3), (3, 29), (4, 29), (5, 29), (6, 3)], size := 7, bytes := 56, zero := Value.agg { toList := [Value.int IntKind.i64 0, Value.string { data := #[] }, Value.int IntKind.i64 0, Value.int IntKind.u32 0, Value.int IntKind.u32 0, Value.int IntKind.u32 0, Value.int IntKind.i64 0] } }
  | 76 => some { d := TD.struct [(0, 3), (1, 9), (2, 3), (3, 29), (4, 29), (5, 29), (6, 3)], size := 7, bytes := 56, zero := Value.agg { toList := [Value.int IntKind.i64 0, Value.string { data := #[] }, Value.int IntKind.i64 0, Value.int IntKind.u32 0, Value.int IntKind.u32 0, Value.int IntKind.u32 0, Value.int IntKind.i64 0] } }
  | 77 => some { d := TD.func, size := 1, bytes := 8, zero := Value.nilFunc }
  | 78 => some { d := TD.func, size := 1, bytes := 8, zero := Value.nilFunc }
  | 79 => some { d := TD.other, size := 1, bytes := 0, zero := Value.tuple { toList := [Value.agg { toList := [Value.int IntKind.i64 0, Value.string { data := #[] }, Value.int IntKind.i64 0, Value.int IntKind.u32 0, Value.int IntKind.u32 0, Value.int IntKind.u32 0, Value.int IntKind.i64 0] }, Value.bool false] } }
  | 80 => some { d := TD.func, size := 1, bytes := 8, zero := Value.nilFunc }
  | 81 => some { d := TD.slice 30, size := 1, bytes := 24, zero := Value.slice none 0 0 }
  | 82 => some { d := TD.func, size := 1, bytes := 8, zero := Value.nilFunc }
  | 83 => some { d := TD.func, size := 1, bytes := 8, zero := Value.nilFunc }
  | 84 => some { d := TD.func, size := 1, bytes := 8, zero := Value.nilFunc }
  | 85 => some { d := TD.func, size := 1, bytes := 8, zero := Value.nilFunc }
  | 86 => some { d := TD.func, size := 1, bytes := 8, zero := Value.nilFunc }
  | 87 => some { d := TD.func, size := 1, bytes := 8, zero := Value.nilFunc }
  | 88 => some { d := TD.struct [(0, 29), (1, 29), (2, 29), (3, 29), (4, 29), (5, 29)], size := 6, bytes := 24, zero := Value.agg #[Value.int IntKind.u32 0, Value.int IntKind.u32 0, Value.int IntKind.u32 0, Value.int IntKind.u32 0, Value.int IntKind.u32 0, Value.int IntKind.u32 0] }
  | 89 => some { d := TD.struct [(0, 29), (1, 29), (2, 29), (3, 29), (4, 29), (5, 29)], size := 6, bytes := 24, zero := Value.agg #[Value.int IntKind.u32 0, Value.int IntKind.u32 0, Value.int IntKind.u32 0, Value.int IntKind.u32 0, Value.int IntKind.u32 0, Value.int IntKind.u32 0] }
  | 90 => some { d := TD.func, size := 1, bytes := 8, zero := Value.nilFunc }
  | 91 => some { d := TD.func, size := 1, bytes := 8, zero := Value.nilFunc }
  | 92 => some { d := TD.func, size := 1, bytes := 8, zero := Value.nilFunc }
  | 93 => some { d := TD.func, size := 1, bytes := 8, zero := Value.nilFunc }
  | 94 => some { d := TD.func, size := 1, bytes := 8, zero := Value.nilFunc }
  | 95 => some { d := TD.func, size := 1, bytes := 8, zero := Value.nilFunc }
  | 96 => some { d := TD.func, size := 1, bytes := 8, zero := Value.nilFunc }
  | 97 => some { d := TD.func, size := 1, bytes := 8, zero := Value.nilFunc }
  | 98 => some { d := TD.func, size := 1, bytes := 8, zero := Value.nilFunc }
  | 99 => some { d := TD.func, size := 1, bytes := 8, zero := Value.nilFunc }
  | 100 => some { d := TD.func, size := 1, bytes := 8, zero := Value.nilFunc }
  | 101 => some { d := TD.int IntKind.i64, size := 1, bytes := 8, zero := Value.int IntKind.i64 0 }
  | 102 => some { d := TD.other, size := 1, bytes := 0, zero := Value.tuple #[Value.int IntKind.i64 0, Value.int IntKind.i64 0] }
  | 103 => some { d := TD.func, size := 1, bytes := 8, zero := Value.nilFunc }
  | 104 => some { d := TD.func, size := 1, bytes := 8, zero := Value.nilFunc }
  | 105 => some { d := TD.func, size := 1, bytes := 8, zero := Value.nilFunc }
  | 106 => some { d := TD.func, size := 1, bytes := 8, zero := Value.nilFunc }
  | 107 => some { d := TD.other, size := 1, bytes := 0, zero := Value.tuple #[Value.int IntKind.i64 0, Value.bool false] }
  | 108 => some { d := TD.func, size := 1, bytes := 8, zero := Value.nilFunc }
  | 109 => some { d := TD.func, size := 1, bytes := 8, zero := Value.nilFunc }
  | 110 => some { d := TD.func, size := 1, bytes := 8, zero := Value.nilFunc }
  | 111 => some { d := TD.int IntKind.u64, size := 1, bytes := 8, zero := Value.int IntKind.u64 0 }
  | 112 => some { d := TD.func, size := 1, bytes := 8, zero := Value.nilFunc }
  | 113 => some { d := TD.slice 117, size := 1, bytes := 24, zero := Value.slice none 0 0 }
  | 114 => some { d := TD.other, size := 1, bytes := 0, zero := Value.tuple #[Value.slice none 0 0, Value.int IntKind.i64 0] }
  | 115 => some { d := TD.func, size := 1, bytes := 8, zero := Value.nilFunc }
  | 116 => some { d := TD.struct [(0, 3), (1, 3), (2, 3)], size := 3, bytes := 24, zero := Value.agg #[Value.int IntKind.i64 0, Value.int IntKind.i64 0, Value.int IntKind.i64 0] }
  | 117 => some { d := TD.struct [(0, 3), (1, 3), (2, 3)], size := 3, bytes := 24, zero := Value.agg #[Value.int IntKind.i64 0, Value.int IntKind.i64 0, Value.int IntKind.i64 0] }
  | 118 => some { d := TD.int IntKind.u64, size := 1, bytes := 8, zero := Value.int IntKind.u64 0 }
  | 119 => some { d := TD.func, size := 1, bytes := 8, zero := Value.nilFunc }
  | 120 => some { d := TD.func, size := 1, bytes := 8, zero := Value.nilFunc }
  | 121 => some { d := TD.func, size := 1, bytes := 8, zero := Value.nilFunc }
  | 122 => some { d := TD.ptr 3, size := 1, bytes := 8, zero := Value.pointer none }
  | 123 => some { d := TD.func, size := 1, bytes := 8, zero := Value.nilFunc }
  | 124 => some { d := TD.ptr 118, size := 1, bytes := 8, zero := Value.pointer none }
  | 125 => some { d := TD.other, size := 1, bytes := 0, zero := Value.tuple #[Value.int IntKind.i64 0, Value.int IntKind.i64 0] }
  | 126 => some { d := TD.func, size := 1, bytes := 8, zero := Value.nilFunc }
  | 127 => some { d := TD.func, size := 1, bytes := 8, zero := Value.nilFunc }
  | 128 => some { d := TD.struct [(0, 17), (1, 17), (2, 17), (3, 9)], size := 4, bytes := 40, zero := Value.agg { toList := [Value.pointer none, Value.pointer none, Value.pointer none, Value.string { data := #[] }] } }
  | 129 => some { d := TD.struct [(0, 17), (1, 17), (2, 17), (3, 9)], size := 4, bytes := 40, zero := Value.agg { toList := [Value.pointer none, Value.pointer none, Value.pointer none, Value.string { data := #[] }] } }
  | 130 => some { d := TD.array 0 16, size := 0, bytes := 0, zero := Value.agg #[] }
  | 131 => some { d := TD.struct [(0, 130)], size := 0, bytes := 0, zero := Value.agg #[] }
  | 132 => some { d := TD.struct [(0, 130)], size := 0, bytes := 0, zero := Value.agg #[] }
  | 133 => some { d := TD.func, size := 1, bytes := 8, zero := Value.nilFunc }
  | 134 => some { d := TD.int IntKind.u8, size := 1, bytes := 1, zero := Value.int IntKind.u8 0 }
  | 135 => some { d := TD.int IntKind.u8, size := 1, bytes := 1, zero := Value.int IntKind.u8 0 }
  | 136 => some { d := TD.func, size := 1, bytes := 8, zero := Value.nilFunc }
  | 137 => some { d := TD.ptr 5, size := 1, bytes := 8, zero := Value.pointer none }
  | 138 => some { d := TD.int IntKind.i32, size := 1, bytes := 4, zero := Value.int IntKind.i32 0 }
  | 139 => some { d := TD.int IntKind.i32, size := 1, bytes := 4, zero := Value.int IntKind.i32 0 }
  | 140 => some { d := TD.struct [(0, 12), (1, 12), (2, 29), (3, 134), (4, 5), (5, 5), (6, 135), (7, 136), (8, 137), (9, 138), (10, 139)], size := 11, bytes := 48, zero := Value.agg #[Value.int IntKind.u64 0, Value.int IntKind.u64 0, Value.int IntKind.u32 0, Value.int IntKind.u8 0, Value.int IntKind.u8 0, Value.int IntKind.u8 0, Value.int IntKind.u8 0, Value.nilFunc, Value.pointer none, Value.int IntKind.i32 0, Value.int IntKind.i32 0] }
  | 141 => some { d := TD.struct [(0, 12), (1, 12), (2, 29), (3, 134), (4, 5), (5, 5), (6, 135), (7, 136), (8, 137), (9, 138), (10, 139)], size := 11, bytes := 48, zero := Value.agg #[Value.int IntKind.u64 0, Value.int IntKind.u64 0, Value.int IntKind.u32 0, Value.int IntKind.u8 0, Value.int IntKind.u8 0, Value.int IntKind.u8 0, Value.int IntKind.u8 0, Value.nilFunc, Value.pointer none, Value.int IntKind.i32 0, Value.int IntKind.i32 0] }
  | 142 => some { d := TD.other, size := 1, bytes := 8, zero := Value.pointer none }
  | _ => none
set_option maxRecDepth 100000 in
theorem tabOK : TabOK Try.prog tab := by
  intro t i h
  unfold tab at h
  split at h
  all_goals first
    | cases h; done
    | (rw [← h]; kernel_rfl)
noncomputable def fns : FuncId → Option Func
  | 3 => some Try.f3
  | 4 => some Try.f4
  | 5 => some Try.f5
  | 6 => some Try.f6
  | 7 => some Try.f7
  | 8 => some Try.f8
  | 9 => some Try.f9
  | 10 => some Try.f10
  | 11 => some Try.f11
  | 12 => some Try.f12
  | 13 => some Try.f13
  | 14 => some Try.f14
  | 15 => some Try.f15
  | 16 => some Try.f16
  | 17 => some Try.f17
  | 18 => some Try.f18
  | 19 => some Try.f19
  | 20 => some Try.f20
  | 21 => some Try.f21
  | 22 => some Try.f22
  | 23 => some Try.f23
  | 24 => some Try.f24
  | 25 => some Try.f25
  | 26 => some Try.f26
  | 27 => some Try.f27
  | 28 => some Try.f28
  | 29 => some Try.f29
  | 30 => some Try.f30
  | 31 => some Try.f31
  | 32 => some Try.f32
  | 33 => some Try.f33
  | 34 => some Try.f34
  | 35 => some Try.f35
  | 36 => some Try.f36
  | 37 => some Try.f37
  | 38 => some Try.f38
  | 39 => some Try.f39
  | 40 => some Try.f40
  | 41 => some Try.f41
  | 42 => some Try.f42
  | 43 => some Try.f43
  | 44 => some Try.f44
  | 45 => some Try.f45
  | 46 => some Try.f46
  | 47 => some Try.f47
  | 48 => some Try.f48
  | 49 => some Try.f49
  | 50 => some Try.f50
  | 51 => some Try.f51
  | 52 => some Try.f52
  | 53 => some Try.f53
  | 54 => some Try.f54
  | 55 => some Try.f55
  | 56 => some Try.f56
  | 57 => some Try.f57
  | 58 => some Try.f58
  | 59 => some Try.f59
  | 63 => some Try.f63
  | 66 => some Try.f66
  | 69 => some Try.f69
  | 70 => some Try.f70
  | 71 => some Try.f71
  | 72 => some Try.f72
  | 73 => some Try.f73
  | 75 => some Try.f75
  | _ => none
def drs : FuncId → Nat → Draw
  | 3, 28 => .sched [0, 1, 2, 3, 4, 6, 7, 8, 9, 10, 12, 13, 14, 15, 16] [5, 11, 17, 18]
  | 18, 1 => .sched [0, 1, 2, 3, 4, 5, 6, 7, 8, 9, 10, 11, 12, 13, 14, 15, 16, 17, 18, 19, 20, 21, 23, 24, 26, 27] [22, 25, 28, 29, 30]
  | 20, 15 => .tail 16
  | 20, 16 => .two [0] [1, 2, 3, 4, 5] [6] [7, 8, 9, 10]
  | 20, 21 => .tail 6
  | 20, 23 => .two [] [0, 1, 2, 3, 4, 7, 8] [5, 6] [9, 10]
  | 20, 25 => .tail 7
  | 27, 1 => .one [0, 1, 2, 3, 4, 5, 6, 7, 8, 9, 10, 11, 12, 13, 14, 15, 16, 17] 18 [19]
  | 27, 4 => .sched [0, 1, 2] [3, 4, 5]
  | 27, 7 => .sched [0, 1, 2] [3, 4, 5]
  | 27, 11 => .sched [0, 1, 2] [3, 4, 5]
  | 27, 12 => .sched [1, 2] [0, 3, 4]
  | 27, 13 => .sched [0, 1, 2, 3, 4] [5, 6, 7, 8, 9]
  | _, _ => .quiet
def keeps : FuncId → Nat → Bool
  | 3 => fun t => Nat.blt t 15
  | 4 => fun t => Nat.blt t 13
  | 5 => fun t => Nat.blt t 15
  | 6 => fun t => Nat.blt t 10 || Nat.beq t 32
  | 7 => fun t => Nat.blt t 3
  | 8 => fun t => Nat.blt t 5
  | 9 => fun t => Nat.blt t 3
  | 10 => fun t => Nat.blt t 7
  | 11 => fun t => Nat.blt t 5
  | 12 => fun t => Nat.blt t 5
  | 13 => fun t => Nat.blt t 13
  | 14 => fun t => Nat.blt t 7
  | 15 => fun t => Nat.blt t 3
  | 16 => fun t => Nat.blt t 6 || Nat.beq t 8 || Nat.beq t 9 || Nat.beq t 10
  | 17 => fun t => Nat.blt t 8
  | 18 => fun t => Nat.blt t 3
  | 19 => fun t => Nat.blt t 8
  | 20 => fun t => Nat.blt t 16
  | 21 => fun t => Nat.blt t 6
  | 22 => fun t => Nat.blt t 6 || Nat.beq t 6
  | 23 => fun t => Nat.blt t 3
  | 24 => fun t => Nat.blt t 8
  | 25 => fun t => Nat.blt t 6 || Nat.beq t 6 || Nat.beq t 7 || Nat.beq t 8
  | 26 => fun t => Nat.blt t 5
  | 27 => fun t => Nat.blt t 8 || Nat.beq t 28
  | 28 => fun t => Nat.blt t 3
  | 29 => fun t => Nat.blt t 4
  | 30 => fun t => Nat.blt t 8
  | 31 => fun t => Nat.blt t 1
  | 32 => fun t => Nat.blt t 7 || Nat.beq t 7
  | 33 => fun t => Nat.blt t 1
  | 34 => fun t => Nat.blt t 6 || Nat.beq t 21
  | 35 => fun t => Nat.blt t 11 || Nat.beq t 44
  | 36 => fun t => Nat.blt t 4
  | 37 => fun t => Nat.blt t 3 || Nat.beq t 3
  | 38 => fun t => Nat.blt t 4
  | 39 => fun t => Nat.blt t 9 || Nat.beq t 9 || Nat.beq t 10 || Nat.beq t 11 || Nat.beq t 25 || Nat.beq t 26 || Nat.beq t 27
  | 40 => fun t => Nat.blt t 3
  | 41 => fun t => Nat.blt t 6
  | 42 => fun t => Nat.blt t 7
  | 43 => fun t => Nat.blt t 17 || Nat.beq t 43
  | 44 => fun t => Nat.blt t 7
  | 45 => fun t => Nat.blt t 7
  | 46 => fun t => Nat.blt t 5 || Nat.beq t 5
  | 47 => fun t => Nat.blt t 3
  | 48 => fun t => Nat.blt t 7
  | 49 => fun t => Nat.blt t 5 || Nat.beq t 6
  | 50 => fun t => Nat.blt t 5
  | 51 => fun t => Nat.blt t 19
  | 52 => fun t => Nat.blt t 3
  | 53 => fun t => Nat.blt t 4
  | 54 => fun t => Nat.blt t 5
  | 55 => fun t => Nat.blt t 7
  | 56 => fun t => Nat.blt t 6
  | 57 => fun t => Nat.blt t 3
  | 58 => fun t => Nat.blt t 10 || Nat.beq t 15 || Nat.beq t 16 || Nat.beq t 17
  | 59 => fun t => Nat.blt t 3 || Nat.beq t 4
  | 63 => fun t => Nat.blt t 13 || Nat.beq t 49
  | 66 => fun t => Nat.blt t 5
  | 69 => fun t => Nat.blt t 3
  | 70 => fun t => Nat.blt t 3
  | 71 => fun t => Nat.blt t 6 || Nat.beq t 7 || Nat.beq t 8
  | 72 => fun t => Nat.blt t 4 || Nat.beq t 4
  | 73 => fun t => Nat.blt t 5
  | 75 => fun t => Nat.blt t 3
  | _ => fun _ => false
def ghs : FuncId → Bool
  | 20 => true
  | 33 => true
  | 31 => true
  | 7 => true
  | _ => false
def bodyOK (dr : Nat → Draw) (fn : Func) : Bool := match fn.body with
  | some c => drawsOK dr c && fn.name != "runtime.NumGoroutine"
  | none => false
theorem bodyOK_spec {dr : Nat → Draw} {fn : Func} (h : bodyOK dr fn = true) : fn.name ≠ "runtime.NumGoroutine" ∧ (∀ c, fn.body = some c → drawsOK dr c = true) ∧ fn.body.isSome = true := by
  unfold bodyOK at h
  split at h
  · rename_i c hc
    simp only [Bool.and_eq_true, bne_iff_ne, ne_eq] at h
    exact ⟨h.2, fun c' hc' => by rw [hc] at hc'; cases hc'; exact h.1, by rw [hc]; rfl⟩
  · cases h
set_option maxRecDepth 100000 in
theorem fnsOK : ∀ f fn, fns f = some fn → Try.prog.funcs[f]? = some fn ∧ bodyOK (drs f) fn = true := by
  intro f fn h
  unfold fns at h
  split at h
  all_goals first
    | (cases h; done)
    | (have e : Try.f3 = fn := Option.some.inj h; subst e; exact ⟨Try.func3, by kernel_rfl⟩)
    | (have e : Try.f4 = fn := Option.some.inj h; subst e; exact ⟨Try.func4, by kernel_rfl⟩)
    | (have e : Try.f5 = fn := Option.some.inj h; subst e; exact ⟨Try.func5, by kernel_rfl⟩)
    | (have e : Try.f6 = fn := Option.some.inj h; subst e; exact ⟨Try.func6, by kernel_rfl⟩)
    | (have e : Try.f7 = fn := Option.some.inj h; subst e; exact ⟨Try.func7, by kernel_rfl⟩)
    | (have e : Try.f8 = fn := Option.some.inj h; subst e; exact ⟨Try.func8, by kernel_rfl⟩)
    | (have e : Try.f9 = fn := Option.some.inj h; subst e; exact ⟨Try.func9, by kernel_rfl⟩)
    | (have e : Try.f10 = fn := Option.some.inj h; subst e; exact ⟨Try.func10, by kernel_rfl⟩)
    | (have e : Try.f11 = fn := Option.some.inj h; subst e; exact ⟨Try.func11, by kernel_rfl⟩)
    | (have e : Try.f12 = fn := Option.some.inj h; subst e; exact ⟨Try.func12, by kernel_rfl⟩)
    | (have e : Try.f13 = fn := Option.some.inj h; subst e; exact ⟨Try.func13, by kernel_rfl⟩)
    | (have e : Try.f14 = fn := Option.some.inj h; subst e; exact ⟨Try.func14, by kernel_rfl⟩)
    | (have e : Try.f15 = fn := Option.some.inj h; subst e; exact ⟨Try.func15, by kernel_rfl⟩)
    | (have e : Try.f16 = fn := Option.some.inj h; subst e; exact ⟨Try.func16, by kernel_rfl⟩)
    | (have e : Try.f17 = fn := Option.some.inj h; subst e; exact ⟨Try.func17, by kernel_rfl⟩)
    | (have e : Try.f18 = fn := Option.some.inj h; subst e; exact ⟨Try.func18, by kernel_rfl⟩)
    | (have e : Try.f19 = fn := Option.some.inj h; subst e; exact ⟨Try.func19, by kernel_rfl⟩)
    | (have e : Try.f20 = fn := Option.some.inj h; subst e; exact ⟨Try.func20, by kernel_rfl⟩)
    | (have e : Try.f21 = fn := Option.some.inj h; subst e; exact ⟨Try.func21, by kernel_rfl⟩)
    | (have e : Try.f22 = fn := Option.some.inj h; subst e; exact ⟨Try.func22, by kernel_rfl⟩)
    | (have e : Try.f23 = fn := Option.some.inj h; subst e; exact ⟨Try.func23, by kernel_rfl⟩)
    | (have e : Try.f24 = fn := Option.some.inj h; subst e; exact ⟨Try.func24, by kernel_rfl⟩)
    | (have e : Try.f25 = fn := Option.some.inj h; subst e; exact ⟨Try.func25, by kernel_rfl⟩)
    | (have e : Try.f26 = fn := Option.some.inj h; subst e; exact ⟨Try.func26, by kernel_rfl⟩)
    | (have e : Try.f27 = fn := Option.some.inj h; subst e; exact ⟨Try.func27, by kernel_rfl⟩)
    | (have e : Try.f28 = fn := Option.some.inj h; subst e; exact ⟨Try.func28, by kernel_rfl⟩)
    | (have e : Try.f29 = fn := Option.some.inj h; subst e; exact ⟨Try.func29, by kernel_rfl⟩)
    | (have e : Try.f30 = fn := Option.some.inj h; subst e; exact ⟨Try.func30, by kernel_rfl⟩)
    | (have e : Try.f31 = fn := Option.some.inj h; subst e; exact ⟨Try.func31, by kernel_rfl⟩)
    | (have e : Try.f32 = fn := Option.some.inj h; subst e; exact ⟨Try.func32, by kernel_rfl⟩)
    | (have e : Try.f33 = fn := Option.some.inj h; subst e; exact ⟨Try.func33, by kernel_rfl⟩)
    | (have e : Try.f34 = fn := Option.some.inj h; subst e; exact ⟨Try.func34, by kernel_rfl⟩)
    | (have e : Try.f35 = fn := Option.some.inj h; subst e; exact ⟨Try.func35, by kernel_rfl⟩)
    | (have e : Try.f36 = fn := Option.some.inj h; subst e; exact ⟨Try.func36, by kernel_rfl⟩)
    | (have e : Try.f37 = fn := Option.some.inj h; subst e; exact ⟨Try.func37, by kernel_rfl⟩)
    | (have e : Try.f38 = fn := Option.some.inj h; subst e; exact ⟨Try.func38, by kernel_rfl⟩)
    | (have e : Try.f39 = fn := Option.some.inj h; subst e; exact ⟨Try.func39, by kernel_rfl⟩)
    | (have e : Try.f40 = fn := Option.some.inj h; subst e; exact ⟨Try.func40, by kernel_rfl⟩)
    | (have e : Try.f41 = fn := Option.some.inj h; subst e; exact ⟨Try.func41, by kernel_rfl⟩)
    | (have e : Try.f42 = fn := Option.some.inj h; subst e; exact ⟨Try.func42, by kernel_rfl⟩)
    | (have e : Try.f43 = fn := Option.some.inj h; subst e; exact ⟨Try.func43, by kernel_rfl⟩)
    | (have e : Try.f44 = fn := Option.some.inj h; subst e; exact ⟨Try.func44, by kernel_rfl⟩)
    | (have e : Try.f45 = fn := Option.some.inj h; subst e; exact ⟨Try.func45, by kernel_rfl⟩)
    | (have e : Try.f46 = fn := Option.some.inj h; subst e; exact ⟨Try.func46, by kernel_rfl⟩)
    | (have e : Try.f47 = fn := Option.some.inj h; subst e; exact ⟨Try.func47, by kernel_rfl⟩)
    | (have e : Try.f48 = fn := Option.some.inj h; subst e; exact ⟨Try.func48, by kernel_rfl⟩)
    | (have e : Try.f49 = fn := Option.some.inj h; subst e; exact ⟨Try.func49, by kernel_rfl⟩)
    | (have e : Try.f50 = fn := Option.some.inj h; subst e; exact ⟨Try.func50, by kernel_rfl⟩)
    | (have e : Try.f51 = fn := Option.some.inj h; subst e; exact ⟨Try.func51, by kernel_rfl⟩)
    | (have e : Try.f52 = fn := Option.some.inj h; subst e; exact ⟨Try.func52, by kernel_rfl⟩)
    | (have e : Try.f53 = fn := Option.some.inj h; subst e; exact ⟨Try.func53, by kernel_rfl⟩)
    | (have e : Try.f54 = fn := Option.some.inj h; subst e; exact ⟨Try.func54, by kernel_rfl⟩)
    | (have e : Try.f55 = fn := Option.some.inj h; subst e; exact ⟨Try.func55, by kernel_rfl⟩)
    | (have e : Try.f56 = fn := Option.some.inj h; subst e; exact ⟨Try.func56, by kernel_rfl⟩)
    | (have e : Try.f57 = fn := Option.some.inj h; subst e; exact ⟨Try.func57, by kernel_rfl⟩)
    | (have e : Try.f58 = fn := Option.some.inj h; subst e; exact ⟨Try.func58, by kernel_rfl⟩)
    | (have e : Try.f59 = fn := Option.some.inj h; subst e; exact ⟨Try.func59, by kernel_rfl⟩)
    | (have e : Try.f63 = fn := Option.some.inj h; subst e; exact ⟨Try.func63, by kernel_rfl⟩)
    | (have e : Try.f66 = fn := Option.some.inj h; subst e; exact ⟨Try.func66, by kernel_rfl⟩)
    | (have e : Try.f69 = fn := Option.some.inj h; subst e; exact ⟨Try.func69, by kernel_rfl⟩)
    | (have e : Try.f70 = fn := Option.some.inj h; subst e; exact ⟨Try.func70, by kernel_rfl⟩)
    | (have e : Try.f71 = fn := Option.some.inj h; subst e; exact ⟨Try.func71, by kernel_rfl⟩)
    | (have e : Try.f72 = fn := Option.some.inj h; subst e; exact ⟨Try.func72, by kernel_rfl⟩)
    | (have e : Try.f73 = fn := Option.some.inj h; subst e; exact ⟨Try.func73, by kernel_rfl⟩)
    | (have e : Try.f75 = fn := Option.some.inj h; subst e; exact ⟨Try.func75, by kernel_rfl⟩)
/-- The context, with what is known of calls. -/
noncomputable def ctx (Φ : Oracle) : Ctx := { T := tab, Fn := fns, Φ := Φ, dr := drs, keep := keeps, gh := ghs, gB := false }
theorem mixed : Try.prog.follows .mixedOrders = true := by kernel_rfl
theorem enters (f : FuncId) (h : (fns f).isSome = true) : Enters Try.prog f := by
  obtain ⟨fn, hf⟩ := Option.isSome_iff_exists.1 h
  obtain ⟨h1, h2⟩ := fnsOK f fn hf
  obtain ⟨h3, h4, h5⟩ := bodyOK_spec h2
  exact ⟨fn, h1, h3, h5⟩
theorem ctxOK {Φ : Oracle} (h : ∀ lo f args H l v H', Φ lo f args H = some l → (true, v, H') ∈ l → CallOK Try.prog lo f args H v H' ∧ (fns f).isSome = true) : CtxOK Try.prog (ctx Φ) :=
  ⟨tabOK, mixed, fun f fn hf => let ⟨h1, h2⟩ := fnsOK f fn hf; let ⟨h3, h4, _⟩ := bodyOK_spec h2; ⟨h1, h3, h4⟩, fun lo f args H l v H' e m => ⟨(h lo f args H l v H' e m).1, enters f (h lo f args H l v H' e m).2⟩⟩
def noΦ : Oracle := fun _ _ _ _ => none
theorem noOK : CtxOK Try.prog (ctx noΦ) := ctxOK fun _ _ _ _ _ _ _ h => by cases h
end Go.Proofs.Ytbcikaoklpekhaa.Ab
