/- The context of the run over this program: its types, its functions, the tails of its regions that draw. Laid by wip/ab/abctx.py. -/
import Derived.Test.YtcaohimipkoapaaProg
import Derived.Test.YtcaohimipkoapaaAb14
import Derived.KernelRfl
namespace Go.Proofs.Ytcaohimipkoapaa.Ab
open Go Go.RowKit
set_option linter.unusedVariables false
set_option linter.unusedSimpArgs false
def tab : Tab
  | 0 => some { d := TD.other, size := 1, bytes := 0, zero := Value.tuple #[] }
  | 1 => some { d := TD.func, size := 1, bytes := 8, zero := Value.nilFunc }
  | 2 => some { d := TD.int IntKind.i64, size := 1, bytes := 8, zero := Value.int IntKind.i64 0 }
  | 3 => some { d := TD.int IntKind.i64, size := 1, bytes := 8, zero := Value.int IntKind.i64 0 }
  | 4 => some { d := TD.bool, size := 1, bytes := 1, zero := Value.bool false }
  | 5 => some { d := TD.int IntKind.u8, size := 1, bytes := 1, zero := Value.int IntKind.u8 0 }
  | 6 => some { d := TD.int IntKind.u8, size := 1, bytes := 1, zero := Value.int IntKind.u8 0 }
  | 7 => some { d := TD.struct [(0, 2), (1, 3), (2, 4), (3, 6)], size := 4, bytes := 24, zero := Value.agg #[Value.int IntKind.i64 0, Value.int IntKind.i64 0, Value.bool false, Value.int IntKind.u8 0] }
  | 8 => some { d := TD.struct [(0, 2), (1, 3), (2, 4), (3, 6)], size := 4, bytes := 24, zero := Value.agg #[Value.int IntKind.i64 0, Value.int IntKind.i64 0, Value.bool false, Value.int IntKind.u8 0] }
  | 9 => some { d := TD.str, size := 1, bytes := 16, zero := Value.string { data := #[] } }
  | 10 => some { d := TD.str, size := 1, bytes := 16, zero := Value.string { data := #[] } }
  | 11 => some { d := TD.str, size := 1, bytes := 16, zero := Value.string { data := #[] } }
  | 12 => some { d := TD.int IntKind.u64, size := 1, bytes := 8, zero := Value.int IntKind.u64 0 }
  | 13 => some { d := TD.struct [(0, 9), (1, 12)], size := 2, bytes := 24, zero := Value.agg { toList := [Value.string { data := #[] }, Value.int IntKind.u64 0] } }
  | 14 => some { d := TD.struct [(0, 9), (1, 12)], size := 2, bytes := 24, zero := Value.agg { toList := [Value.string { data := #[] }, Value.int IntKind.u64 0] } }
  | 15 => some { d := TD.ptr 83, size := 1, bytes := 8, zero := Value.pointer none }
  | 16 => some { d := TD.ptr 86, size := 1, bytes := 8, zero := Value.pointer none }
  | 17 => some { d := TD.ptr 94, size := 1, bytes := 8, zero := Value.pointer none }
  | 18 => some { d := TD.struct [(0, 17)], size := 1, bytes := 8, zero := Value.agg #[Value.pointer none] }
  | 19 => some { d := TD.struct [(0, 17)], size := 1, bytes := 8, zero := Value.agg #[Value.pointer none] }
  | 20 => some { d := TD.iface, size := 1, bytes := 16, zero := Value.nilIface }
  | 21 => some { d := TD.int IntKind.i32, size := 1, bytes := 4, zero := Value.int IntKind.i32 0 }
  | 22 => some { d := TD.int IntKind.u32, size := 1, bytes := 4, zero := Value.int IntKind.u32 0 }
  | 23 => some { d := TD.func, size := 1, bytes := 8, zero := Value.nilFunc }
  | 24 => some { d := TD.func, size := 1, bytes := 8, zero := Value.nilFunc }
  | 25 => some { d := TD.other, size := 1, bytes := 0, zero := Value.tuple #[Value.int IntKind.u32 0, Value.bool false] }
  | 26 => some { d := TD.func, size := 1, bytes := 8, zero := Value.nilFunc }
  | 27 => some { d := TD.slice 22, size := 1, bytes := 24, zero := Value.slice none 0 0 }
  | 28 => some { d := TD.func, size := 1, bytes := 8, zero := Value.nilFunc }
  | 29 => some { d := TD.int IntKind.u64, size := 1, bytes := 8, zero := Value.int IntKind.u64 0 }
  | 30 => some { d := TD.func, size := 1, bytes := 8, zero := Value.nilFunc }
  | 31 => some { d := TD.struct [(0, 22), (1, 22), (2, 22), (3, 22), (4, 22), (5, 22)], size := 6, bytes := 24, zero := Value.agg #[Value.int IntKind.u32 0, Value.int IntKind.u32 0, Value.int IntKind.u32 0, Value.int IntKind.u32 0, Value.int IntKind.u32 0, Value.int IntKind.u32 0] }
  | 32 => some { d := TD.struct [(0, 22), (1, 22), (2, 22), (3, 22), (4, 22), (5, 22)], size := 6, bytes := 24, zero := Value.agg #[Value.int IntKind.u32 0, Value.int IntKind.u32 0, Value.int IntKind.u32 0, Value.int IntKind.u32 0, Value.int IntKind.u32 0, Value.int IntKind.u32 0] }
  | 33 => some { d := TD.func, size := 1, bytes := 8, zero := Value.nilFunc }
  | 34 => some { d := TD.func, size := 1, bytes := 8, zero := Value.nilFunc }
  | 35 => some { d := TD.func, size := 1, bytes := 8, zero := Value.nilFunc }
  | 36 => some { d := TD.func, size := 1, bytes := 8, zero := Value.nilFunc }
  | 37 => some { d := TD.struct [(0, 4), (1, 22), (2, 22), (3, 22), (4, 22), (5, 22), (6, 22), (7, 22), (8, 22), (9, 22), (10, 22)], size := 11, bytes := 44, zero := Value.agg #[Value.bool false, Value.int IntKind.u32 0, Value.int IntKind.u32 0, Value.int IntKind.u32 0, Value.int IntKind.u32 0, Value.int IntKind.u32 0, Value.int IntKind.u32 0, Value.int IntKind.u32 0, Value.int IntKind.u32 0, Value.int IntKind.u32 0, Value.int IntKind.u32 0] }
  | 38 => some { d := TD.struct [(0, 4), (1, 22), (2, 22), (3, 22), (4, 22), (5, 22), (6, 22), (7, 22), (8, 22), (9, 22), (10, 22)], size := 11, bytes := 44, zero := Value.agg #[Value.bool false, Value.int IntKind.u32 0, Value.int IntKind.u32 0, Value.int IntKind.u32 0, Value.int IntKind.u32 0, Value.int IntKind.u32 0, Value.int IntKind.u32 0, Value.int IntKind.u32 0, Value.int IntKind.u32 0, Value.int IntKind.u32 0, Value.int IntKind.u32 0] }
  | 39 => some { d := TD.func, size := 1, bytes := 8, zero := Value.nilFunc }
  | 40 => some { d := TD.slice 3, size := 1, bytes := 24, zero := Value.slice none 0 0 }
  | 41 => some { d := TD.func, size := 1, bytes := 8, zero := Value.nilFunc }
  | 42 => some { d := TD.func, size := 1, bytes := 8, zero := Value.nilFunc }
  | 43 => some { d := TD.func, size := 1, bytes := 8, zero := Value.nilFunc }
  | 44 => some { d := TD.func, size := 1, bytes := 8, zero := Value.nilFunc }
  | 45 => some { d := TD.func, size := 1, bytes := 8, zero := Value.nilFunc }
  | 46 => some { d := TD.func, size := 1, bytes := 8, zero := Value.nilFunc }
  | 47 => some { d := TD.func, size := 1, bytes := 8, zero := Value.nilFunc }
  | 48 => some { d := TD.func, size := 1, bytes := 8, zero := Value.nilFunc }
  | 49 => some { d := TD.func, size := 1, bytes := 8, zero := Value.nilFunc }
  | 50 => some { d := TD.func, size := 1, bytes := 8, zero := Value.nilFunc }
  | 51 => some { d := TD.func, size := 1, bytes := 8, zero := Value.nilFunc }
  | 52 => some { d := TD.func, size := 1, bytes := 8, zero := Value.nilFunc }
  | 53 => some { d := TD.slice 59, size := 1, bytes := 24, zero := Value.slice none 0 0 }
  | 54 => some { d := TD.array 10 22, size := 10, bytes := 40, zero := Value.agg #[Value.int IntKind.u32 0, Value.int IntKind.u32 0, Value.int IntKind.u32 0, Value.int IntKind.u32 0, Value.int IntKind.u32 0, Value.int IntKind.u32 0, Value.int IntKind.u32 0, Value.int IntKind.u32 0, Value.int IntKind.u32 0, Value.int IntKind.u32 0] }
  | 55 => some { d := TD.struct [(0, 3), (1, 54)], size := 11, bytes := 48, zero := Value.agg #[Value.int IntKind.i64 0, Value.int IntKind.u32 0, Value.int IntKind.u32 0, Value.int IntKind.u32 0, Value.int IntKind.u32 0, Value.int IntKind.u32 0, Value.int IntKind.u32 0, Value.int IntKind.u32 0, Value.int IntKind.u32 0, Value.int IntKind.u32 0, Value.int IntKind.u32 0] }
  | 56 => some { d := TD.struct [(0, 3), (1, 54)], size := 11, bytes := 48, zero := Value.agg #[Value.int IntKind.i64 0, Value.int IntKind.u32 0, Value.int IntKind.u32 0, Value.int IntKind.u32 0, Value.int IntKind.u32 0, Value.int IntKind.u32 0, Value.int IntKind.u32 0, Value.int IntKind.u32 0, Value.int IntKind.u32 0, Value.int IntKind.u32 0, Value.int IntKind.u32 0] }
  | 57 => some { d := TD.func, size := 1, bytes := 8, zero := Value.nilFunc }
  | 58 => some { d := TD.struct [(0, 3), (1, 3), (2, 22), (3, 22), (4, 22)], size := 5, bytes := 32, zero := Value.agg #[Value.int IntKind.i64 0, Value.int IntKind.i64 0, Value.int IntKind.u32 0, Value.int IntKind.u32 0, Value.int IntKind.u32 0] }
  | 59 => some { d := TD.struct [(0, 3), (1, 3), (2, 22), (3, 22), (4, 22)], size := 5, bytes := 32, zero := Value.agg #[Value.int IntKind.i64 0, Value.int IntKind.i64 0, Value.int IntKind.u32 0, Value.int IntKind.u32 0, Value.int IntKind.u32 0] }
  | 60 => some { d := TD.func, size := 1, bytes := 8, zero := Value.nilFunc }
  | 61 => some { d := TD.func, size := 1, bytes := 8, zero := Value.nilFunc }
  | 62 => some { d := TD.func, size := 1, bytes := 8, zero := Value.nilFunc }
  | 63 => some { d := TD.slice 67, size := 1, bytes := 24, zero := Value.slice none 0 0 }
  | 64 => some { d := TD.other, size := 1, bytes := 0, zero := Value.tuple #[Value.slice none 0 0, Value.int IntKind.i64 0] }
  | 65 => some { d := TD.func, size := 1, bytes := 8, zero := Value.nilFunc }
  | 66 => some { d := TD.struct [(0, 3), (1, 3), (2, 3)], size := 3, bytes := 24, zero := Value.agg #[Value.int IntKind.i64 0, Value.int IntKind.i64 0, Value.int IntKind.i64 0] }
  | 67 => some { d := TD.struct [(0, 3), (1, 3), (2, 3)], size := 3, bytes := 24, zero := Value.agg #[Value.int IntKind.i64 0, Value.int IntKind.i64 0, Value.int IntKind.i64 0] }
  | 68 => some { d := TD.func, size := 1, bytes := 8, zero := Value.nilFunc }
  | 69 => some { d := TD.func, size := 1, bytes := 8, zero := Value.nilFunc }
  | 70 => some { d := TD.func, size := 1, bytes := 8, zero := Value.nilFunc }
  | 71 => some { d := TD.struct [(0, 3), (1, 3), (2, 22)], size := 3, bytes := 24, zero := Value.agg #[Value.int IntKind.i64 0, Value.int IntKind.i64 0, Value.int IntKind.u32 0] }
  | 72 => some { d := TD.struct [(0, 3), (1, 3), (2, 22)], size := 3, bytes := 24, zero := Value.agg #[Value.int IntKind.i64 0, Value.int IntKind.i64 0, Value.int IntKind.u32 0] }
  | 73 => some { d := TD.ptr 38, size := 1, bytes := 8, zero := Value.pointer none }
  | 74 => some { d := TD.ptr 22, size := 1, bytes := 8, zero := Value.pointer none }
  | 75 => some { d := TD.func, size := 1, bytes := 8, zero := Value.nilFunc }
  | 76 => some { d := TD.ptr 56, size := 1, bytes := 8, zero := Value.pointer none }
  | 77 => some { d := TD.func, size := 1, bytes := 8, zero := Value.nilFunc }
  | 78 => some { d := TD.func, size := 1, bytes := 8, zero := Value.nilFunc }
  | 79 => some { d := TD.slice 72, size := 1, bytes := 24, zero := Value.slice none 0 0 }
  | 80 => some { d := TD.func, size := 1, bytes := 8, zero := Value.nilFunc }
  | 81 => some { d := TD.func, size := 1, bytes := 8, zero := Value.nilFunc }
  | 82 => some { d := TD.struct [(0, 17), (1, 17), (2, 17), (3, 9)], size := 4, bytes := 40, zero := Value.agg { toList := [Value.pointer none, Value.pointer none, Value.pointer none, Value.string { data := #[] }] } }
  | 83 => some { d := TD.struct [(0, 17), (1, 17), (2, 17), (3, 9)], size := 4, bytes := 40, zero := Value.agg { toList := [Value.pointer none, Value.pointer none, Value.pointer none, Value.string { data := #[] }] } }
  | 84 => some { d := TD.array 0 16, size := 0, bytes := 0, zero := Value.agg #[] }
  | 85 => some { d := TD.struct [(0, 84)], size := 0, bytes := 0, zero := Value.agg #[] }
  | 86 => some { d := TD.struct [(0, 84)], size := 0, bytes := 0, zero := Value.agg #[] }
  | 87 => some { d := TD.int IntKind.u8, size := 1, bytes := 1, zero := Value.int IntKind.u8 0 }
  | 88 => some { d := TD.int IntKind.u8, size := 1, bytes := 1, zero := Value.int IntKind.u8 0 }
  | 89 => some { d := TD.func, size := 1, bytes := 8, zero := Value.nilFunc }
  | 90 => some { d := TD.ptr 5, size := 1, bytes := 8, zero := Value.pointer none }
  | 91 => some { d := TD.int IntKind.i32, size := 1, bytes := 4, zero := Value.int IntKind.i32 0 }
  | 92 => some { d := TD.int IntKind.i32, size := 1, bytes := 4, zero := Value.int IntKind.i32 0 }
  | 93 => some { d := TD.struct [(0, 12), (1, 12), (2, 22), (3, 87), (4, 5), (5, 5), (6, 88), (7, 89), (8, 90), (9, 91), (10, 92)], size := 11, bytes := 48, zero := Value.agg #[Value.int IntKind.u64 0, Value.int IntKind.u64 0, Value.int IntKind.u32 0, Value.int IntKind.u8 0, Value.int IntKind.u8 0, Value.int IntKind.u8 0, Value.int IntKind.u8 0, Value.nilFunc, Value.pointer none, Value.int IntKind.i32 0, Value.int IntKind.i32 0] }
  | 94 => some { d := TD.struct [(0, 12), (1, 12), (2, 22), (3, 87), (4, 5), (5, 5), (6, 88), (7, 89), (8, 90), (9, 91), (10, 92)], size := 11, bytes := 48, zero := Value.agg #[Value.int IntKind.u64 0, Value.int IntKind.u64 0, Value.int IntKind.u32 0, Value.int IntKind.u8 0, Value.int IntKind.u8 0, Value.int IntKind.u8 0, Value.int IntKind.u8 0, Value.nilFunc, Value.pointer none, Value.int IntKind.i32 0, Value.int IntKind.i32 0] }
  | 95 => some { d := TD.other, size := 1, bytes := 8, zero := Value.pointer none }
  | _ => none
set_option maxRecDepth 100000 in
theorem tabOK : TabOK Try.prog tab := by
  intro t i h
  unfold tab at h
  split at h
  all_goals first
    | cases h; done
    | (rw [← h]; kernel_rfl)
noncomputable def fns : FuncId → Option Func
  | 3 => some Try.f3
  | 4 => some Try.f4
  | 5 => some Try.f5
  | 6 => some Try.f6
  | 7 => some Try.f7
  | 8 => some Try.f8
  | 9 => some Try.f9
  | 10 => some Try.f10
  | 11 => some Try.f11
  | 12 => some Try.f12
  | 13 => some Try.f13
  | 14 => some Try.f14
  | 15 => some Try.f15
  | 16 => some Try.f16
  | 17 => some Try.f17
  | 18 => some Try.f18
  | 19 => some Try.f19
  | 20 => some Try.f20
  | 21 => some Try.f21
  | 22 => some Try.f22
  | 23 => some Try.f23
  | 24 => some Try.f24
  | 25 => some Try.f25
  | 26 => some Try.f26
  | 27 => some Try.f27
  | 28 => some Try.f28
  | 29 => some Try.f29
  | 30 => some Try.f30
  | 31 => some Try.f31
  | 32 => some Try.f32
  | 33 => some Try.f33
  | 34 => some Try.f34
  | 35 => some Try.f35
  | 36 => some Try.f36
  | 37 => some Try.f37
  | 38 => some Try.f38
  | 39 => some Try.f39
  | 40 => some Try.f40
  | 41 => some Try.f41
  | 42 => some Try.f42
  | 43 => some Try.f43
  | 44 => some Try.f44
  | 45 => some Try.f45
  | 46 => some Try.f46
  | 47 => some Try.f47
  | 48 => some Try.f48
  | 49 => some Try.f49
  | 50 => some Try.f50
  | 51 => some Try.f51
  | 52 => some Try.f52
  | _ => none
def drs : FuncId → Nat → Draw
  | 12, 20 => .sched [0, 1, 2, 3, 5, 6, 7, 8] [4, 9, 10]
  | 12, 26 => .sched [0, 1, 2, 3, 4, 5, 7, 8, 9, 10, 11, 12] [6, 13, 14]
  | 12, 36 => .mix 29 [30] [29, 31, 32, 33]
  | 25, 1 => .tail 40
  | 49, 0 => .tail 7
  | _, _ => .quiet
def keeps : FuncId → Nat → Bool
  | 3 => fun t => Nat.blt t 10
  | 4 => fun t => Nat.blt t 12
  | 5 => fun t => Nat.blt t 13
  | 6 => fun t => Nat.blt t 15
  | 7 => fun t => Nat.blt t 15
  | 8 => fun t => Nat.blt t 15
  | 9 => fun t => Nat.blt t 20
  | 10 => fun t => Nat.blt t 23
  | 11 => fun t => Nat.blt t 19
  | 12 => fun t => Nat.blt t 20 || Nat.beq t 48
  | 13 => fun t => Nat.blt t 5
  | 14 => fun t => Nat.blt t 10 || Nat.beq t 15 || Nat.beq t 16 || Nat.beq t 17
  | 15 => fun t => Nat.blt t 11 || Nat.beq t 16 || Nat.beq t 17 || Nat.beq t 18
  | 16 => fun t => Nat.blt t 3
  | 17 => fun t => Nat.blt t 3
  | 18 => fun t => Nat.blt t 7 || Nat.beq t 7
  | 19 => fun t => Nat.blt t 5 || Nat.beq t 5
  | 20 => fun t => Nat.blt t 10
  | 21 => fun t => Nat.blt t 3
  | 22 => fun t => Nat.blt t 9 || Nat.beq t 24
  | 23 => fun t => Nat.blt t 7
  | 24 => fun t => Nat.blt t 3
  | 25 => fun t => Nat.blt t 3
  | 26 => fun t => Nat.blt t 3
  | 27 => fun t => Nat.blt t 3
  | 28 => fun t => Nat.blt t 10
  | 29 => fun t => Nat.blt t 4
  | 30 => fun t => Nat.blt t 4
  | 31 => fun t => Nat.blt t 3
  | 32 => fun t => Nat.blt t 4
  | 33 => fun t => Nat.blt t 10 || Nat.beq t 24
  | 34 => fun t => Nat.blt t 4
  | 35 => fun t => Nat.blt t 10
  | 36 => fun t => Nat.blt t 5
  | 37 => fun t => Nat.blt t 7
  | 38 => fun t => Nat.blt t 3
  | 39 => fun t => Nat.blt t 5
  | 40 => fun t => Nat.blt t 7
  | 41 => fun t => Nat.blt t 4 || Nat.beq t 4
  | 42 => fun t => Nat.blt t 7
  | 43 => fun t => Nat.blt t 5
  | 44 => fun t => Nat.blt t 6 || Nat.beq t 6 || Nat.beq t 7 || Nat.beq t 8
  | 45 => fun t => Nat.blt t 7
  | 46 => fun t => Nat.blt t 6
  | 47 => fun t => Nat.blt t 7
  | 48 => fun t => Nat.blt t 5 || Nat.beq t 5
  | 49 => fun t => Nat.blt t 6
  | 50 => fun t => Nat.blt t 5
  | 51 => fun t => Nat.blt t 3
  | 52 => fun t => Nat.blt t 1
  | _ => fun _ => false
def bodyOK (dr : Nat → Draw) (fn : Func) : Bool := match fn.body with
  | some c => drawsOK dr c && fn.name != "runtime.NumGoroutine"
  | none => false
theorem bodyOK_spec {dr : Nat → Draw} {fn : Func} (h : bodyOK dr fn = true) : fn.name ≠ "runtime.NumGoroutine" ∧ (∀ c, fn.body = some c → drawsOK dr c = true) ∧ fn.body.isSome = true := by
  unfold bodyOK at h
  split at h
  · rename_i c hc
    simp only [Bool.and_eq_true, bne_iff_ne, ne_eq] at h
    exact ⟨h.2, fun c' hc' => by rw [hc] at hc'; cases hc'; exact h.1, by rw [hc]; rfl⟩
  · cases h
set_option maxRecDepth 100000 in
theorem fnsOK : ∀ f fn, fns f = some fn → Try.prog.funcs[f]? = some fn ∧ bodyOK (drs f) fn = true := by
  intro f fn h
  unfold fns at h
  split at h
  all_goals first
    | (cases h; done)
    | (have e : Try.f3 = fn := Option.some.inj h; subst e; exact ⟨Try.func3, by kernel_rfl⟩)
    | (have e : Try.f4 = fn := Option.some.inj h; subst e; exact ⟨Try.func4, by kernel_rfl⟩)
    | (have e : Try.f5 = fn := Option.some.inj h; subst e; exact ⟨Try.func5, by kernel_rfl⟩)
    | (have e : Try.f6 = fn := Option.some.inj h; subst e; exact ⟨Try.func6, by kernel_rfl⟩)
    | (have e : Try.f7 = fn := Option.some.inj h; subst e; exact ⟨Try.func7, by kernel_rfl⟩)
    | (have e : Try.f8 = fn := Option.some.inj h; subst e; exact ⟨Try.func8, by kernel_rfl⟩)
    | (have e : Try.f9 = fn := Option.some.inj h; subst e; exact ⟨Try.func9, by kernel_rfl⟩)
    | (have e : Try.f10 = fn := Option.some.inj h; subst e; exact ⟨Try.func10, by kernel_rfl⟩)
    | (have e : Try.f11 = fn := Option.some.inj h; subst e; exact ⟨Try.func11, by kernel_rfl⟩)
    | (have e : Try.f12 = fn := Option.some.inj h; subst e; exact ⟨Try.func12, by kernel_rfl⟩)
    | (have e : Try.f13 = fn := Option.some.inj h; subst e; exact ⟨Try.func13, by kernel_rfl⟩)
    | (have e : Try.f14 = fn := Option.some.inj h; subst e; exact ⟨Try.func14, by kernel_rfl⟩)
    | (have e : Try.f15 = fn := Option.some.inj h; subst e; exact ⟨Try.func15, by kernel_rfl⟩)
    | (have e : Try.f16 = fn := Option.some.inj h; subst e; exact ⟨Try.func16, by kernel_rfl⟩)
    | (have e : Try.f17 = fn := Option.some.inj h; subst e; exact ⟨Try.func17, by kernel_rfl⟩)
    | (have e : Try.f18 = fn := Option.some.inj h; subst e; exact ⟨Try.func18, by kernel_rfl⟩)
    | (have e : Try.f19 = fn := Option.some.inj h; subst e; exact ⟨Try.func19, by kernel_rfl⟩)
    | (have e : Try.f20 = fn := Option.some.inj h; subst e; exact ⟨Try.func20, by kernel_rfl⟩)
    | (have e : Try.f21 = fn := Option.some.inj h; subst e; exact ⟨Try.func21, by kernel_rfl⟩)
    | (have e : Try.f22 = fn := Option.some.inj h; subst e; exact ⟨Try.func22, by kernel_rfl⟩)
    | (have e : Try.f23 = fn := Option.some.inj h; subst e; exact ⟨Try.func23, by kernel_rfl⟩)
    | (have e : Try.f24 = fn := Option.some.inj h; subst e; exact ⟨Try.func24, by kernel_rfl⟩)
    | (have e : Try.f25 = fn := Option.some.inj h; subst e; exact ⟨Try.func25, by kernel_rfl⟩)
    | (have e : Try.f26 = fn := Option.some.inj h; subst e; exact ⟨Try.func26, by kernel_rfl⟩)
    | (have e : Try.f27 = fn := Option.some.inj h; subst e; exact ⟨Try.func27, by kernel_rfl⟩)
    | (have e : Try.f28 = fn := Option.some.inj h; subst e; exact ⟨Try.func28, by kernel_rfl⟩)
    | (have e : Try.f29 = fn := Option.some.inj h; subst e; exact ⟨Try.func29, by kernel_rfl⟩)
    | (have e : Try.f30 = fn := Option.some.inj h; subst e; exact ⟨Try.func30, by kernel_rfl⟩)
    | (have e : Try.f31 = fn := Option.some.inj h; subst e; exact ⟨Try.func31, by kernel_rfl⟩)
    | (have e : Try.f32 = fn := Option.some.inj h; subst e; exact ⟨Try.func32, by kernel_rfl⟩)
    | (have e : Try.f33 = fn := Option.some.inj h; subst e; exact ⟨Try.func33, by kernel_rfl⟩)
    | (have e : Try.f34 = fn := Option.some.inj h; subst e; exact ⟨Try.func34, by kernel_rfl⟩)
    | (have e : Try.f35 = fn := Option.some.inj h; subst e; exact ⟨Try.func35, by kernel_rfl⟩)
    | (have e : Try.f36 = fn := Option.some.inj h; subst e; exact ⟨Try.func36, by kernel_rfl⟩)
    | (have e : Try.f37 = fn := Option.some.inj h; subst e; exact ⟨Try.func37, by kernel_rfl⟩)
    | (have e : Try.f38 = fn := Option.some.inj h; subst e; exact ⟨Try.func38, by kernel_rfl⟩)
    | (have e : Try.f39 = fn := Option.some.inj h; subst e; exact ⟨Try.func39, by kernel_rfl⟩)
    | (have e : Try.f40 = fn := Option.some.inj h; subst e; exact ⟨Try.func40, by kernel_rfl⟩)
    | (have e : Try.f41 = fn := Option.some.inj h; subst e; exact ⟨Try.func41, by kernel_rfl⟩)
    | (have e : Try.f42 = fn := Option.some.inj h; subst e; exact ⟨Try.func42, by kernel_rfl⟩)
    | (have e : Try.f43 = fn := Option.some.inj h; subst e; exact ⟨Try.func43, by kernel_rfl⟩)
    | (have e : Try.f44 = fn := Option.some.inj h; subst e; exact ⟨Try.func44, by kernel_rfl⟩)
    | (have e : Try.f45 = fn := Option.some.inj h; subst e; exact ⟨Try.func45, by kernel_rfl⟩)
    | (have e : Try.f46 = fn := Option.some.inj h; subst e; exact ⟨Try.func46, by kernel_rfl⟩)
    | (have e : Try.f47 = fn := Option.some.inj h; subst e; exact ⟨Try.func47, by kernel_rfl⟩)
    | (have e : Try.f48 = fn := Option.some.inj h; subst e; exact ⟨Try.func48, by kernel_rfl⟩)
    | (have e : Try.f49 = fn := Option.some.inj h; subst e; exact ⟨Try.func49, by kernel_rfl⟩)
    | (have e : Try.f50 = fn := Option.some.inj h; subst e; exact ⟨Try.func50, by kernel_rfl⟩)
    | (have e : Try.f51 = fn := Option.some.inj h; subst e; exact ⟨Try.func51, by kernel_rfl⟩)
    | (have e : Try.f52 = fn := Option.some.inj h; subst e; exact ⟨Try.func52, by kernel_rfl⟩)
/-- The context, with what is known of calls. -/
noncomputable def ctx (Φ : Oracle) : Ctx := { T := tab, Fn := fns, Φ := Φ, dr := drs, keep := keeps }
theorem mixed : Try.prog.follows .mixedOrders = true := by kernel_rfl
theorem enters (f : FuncId) (h : (fns f).isSome = true) : Enters Try.prog f := by
  obtain ⟨fn, hf⟩ := Option.isSome_iff_exists.1 h
  obtain ⟨h1, h2⟩ := fnsOK f fn hf
  obtain ⟨h3, h4, h5⟩ := bodyOK_spec h2
  exact ⟨fn, h1, h3, h5⟩
theorem ctxOK {Φ : Oracle} (h : ∀ lo f args H v H', Φ lo f args H = some (true, v, H') → CallOK Try.prog lo f args H v H' ∧ (fns f).isSome = true) : CtxOK Try.prog (ctx Φ) :=
  ⟨tabOK, mixed, fun f fn hf => let ⟨h1, h2⟩ := fnsOK f fn hf; let ⟨h3, h4, _⟩ := bodyOK_spec h2; ⟨h1, h3, h4⟩, fun lo f args H v H' e => ⟨(h lo f args H v H' e).1, enters f (h lo f args H v H' e).2⟩⟩
def noΦ : Oracle := fun _ _ _ _ => none
theorem noOK : CtxOK Try.prog (ctx noΦ) := ctxOK fun _ _ _ _ _ _ h => by cases h
end Go.Proofs.Ytcaohimipkoapaa.Ab
