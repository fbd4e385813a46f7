/- LonePlays: whether a line takes a message: one Bool, for the line and for the reference. -/
import Derived.Test.YtecmjcfhbedelaaAbC
import Derived.Test.YtecmjcfhbedelaaAb17
namespace Go.Proofs.Ytecmjcfhbedelaa.Ab
open Go Go.RowKit
set_option linter.unusedVariables false
set_option linter.unusedSimpArgs false
def xB (line hart s d0 d1 d2 d3 wt kp : Int) : Blk := { cells := [.int .i64 line, .int .i64 hart, .int .i64 s, .int .u32 d0, .int .u32 d1, .int .u32 d2, .int .u32 d3, .int .i64 wt, .int .i64 kp], elem := 74 }
def yB (line hart s d0 d1 d2 d3 wt kp : Int) : Blk := { cells := [.int .i64 line, .int .i64 hart, .int .i64 s, .int .i64 wt, .int .u32 d0, .int .u32 d1, .int .u32 d2, .int .u32 d3, .int .i64 kp], elem := 69 }
def mV (mk ml mf mt m0 m1 m2 m3 : Int) (h d a : Bool) : Value := .agg #[.int .i64 mk, .int .i64 ml, .int .i64 mf, .int .i64 mt, .int .u32 m0, .int .u32 m1, .int .u32 m2, .int .u32 m3, .bool h, .bool d, .bool a]
/-- Is a message of this kind taken, in this state? -/
def kindT (s wt mk : Int) : Bool := bif mk == 4 then true else bif mk == 5 then true else bif mk == 6 then true else bif mk == 7 then (bif wt == 1 then true else bif wt == 2 then true else false)
  else bif mk == 8 then (bif wt == 2 then (bif s != 0 then true else false) else false) else bif mk == 9 then (bif wt == 3 then true else false) else false
/-- Is it taken? -/
def T (line hart s wt mk ml mf mt : Int) : Bool := kindT s wt mk && (!(ml != line) && (!(mt != hart) && !(mf != -1)))
theorem x_tree (line hart s d0 d1 d2 d3 wt kp mk ml mf mt m0 m1 m2 m3 : Int) (h d a : Bool) : callK (ctx noΦ) 3 1 17 [.pointer (some ⟨0, 0, none⟩), mV mk ml mf mt m0 m1 m2 m3 h d a] [some (xB line hart s d0 d1 d2 d3 wt kp)] (fun v _ => some v) =
  (bif mt != hart then some (.bool false) else bif mf != -1 then some (.bool false) else bif ml != line then some (.bool false) else
   bif mk == 4 then some (.bool true) else bif mk == 5 then some (.bool true) else bif mk == 6 then some (.bool true) else
   bif mk == 7 then (bif wt == 1 then some (.bool true) else bif wt == 2 then some (.bool true) else some (.bool false)) else
   bif mk == 8 then (bif wt == 2 then (bif s != 0 then some (.bool true) else some (.bool false)) else some (.bool false)) else
   bif mk == 9 then (bif wt == 3 then some (.bool true) else some (.bool false)) else some (.bool false)) := by kernel_rfl
theorem y_tree (line hart s d0 d1 d2 d3 wt kp mk ml mf mt m0 m1 m2 m3 : Int) (h d a : Bool) : callK (ctx noΦ) 3 1 36 [.pointer (some ⟨0, 0, none⟩), mV mk ml mf mt m0 m1 m2 m3 h d a] [some (yB line hart s d0 d1 d2 d3 wt kp)] (fun v _ => some v) =
  (bif ml != line then some (.bool false) else bif mt != hart then some (.bool false) else bif mf != -1 then some (.bool false) else
   bif mk == 4 then some (.bool true) else bif mk == 5 then some (.bool true) else bif mk == 6 then some (.bool true) else
   bif mk == 7 then (bif wt == 1 then some (.bool true) else bif wt == 2 then some (.bool true) else some (.bool false)) else
   bif mk == 8 then (bif wt == 2 then (bif s != 0 then some (.bool true) else some (.bool false)) else some (.bool false)) else
   bif mk == 9 then (bif wt == 3 then some (.bool true) else some (.bool false)) else some (.bool false)) := by kernel_rfl
theorem kind_tree (s wt mk : Int) : (bif mk == 4 then some (Value.bool true) else bif mk == 5 then some (.bool true) else bif mk == 6 then some (.bool true) else
   bif mk == 7 then (bif wt == 1 then some (.bool true) else bif wt == 2 then some (.bool true) else some (.bool false)) else
   bif mk == 8 then (bif wt == 2 then (bif s != 0 then some (.bool true) else some (.bool false)) else some (.bool false)) else
   bif mk == 9 then (bif wt == 3 then some (.bool true) else some (.bool false)) else some (.bool false)) = some (.bool (kindT s wt mk)) := by
  unfold kindT
  generalize (mk == 4) = b4
  generalize (mk == 5) = b5
  generalize (mk == 6) = b6
  generalize (mk == 7) = b7
  generalize (mk == 8) = b8
  generalize (mk == 9) = b9
  generalize (wt == 1) = w1
  generalize (wt == 2) = w2
  generalize (wt == 3) = w3
  generalize (s != 0) = s0
  cases b4 <;> cases b5 <;> cases b6 <;> cases b7 <;> cases b8 <;> cases b9 <;> cases w1 <;> cases w2 <;> cases w3 <;> cases s0 <;> rfl
theorem x_takes (line hart s d0 d1 d2 d3 wt kp mk ml mf mt m0 m1 m2 m3 : Int) (h d a : Bool) : callK (ctx noΦ) 3 1 17 [.pointer (some ⟨0, 0, none⟩), mV mk ml mf mt m0 m1 m2 m3 h d a] [some (xB line hart s d0 d1 d2 d3 wt kp)] (fun v _ => some v) = some (.bool (T line hart s wt mk ml mf mt)) := by
  rw [x_tree, kind_tree]; unfold T
  generalize kindT s wt mk = k
  generalize (mt != hart) = b1
  generalize (mf != -1) = b2
  generalize (ml != line) = b3
  cases b1 <;> cases b2 <;> cases b3 <;> cases k <;> rfl
theorem y_takes (line hart s d0 d1 d2 d3 wt kp mk ml mf mt m0 m1 m2 m3 : Int) (h d a : Bool) : callK (ctx noΦ) 3 1 36 [.pointer (some ⟨0, 0, none⟩), mV mk ml mf mt m0 m1 m2 m3 h d a] [some (yB line hart s d0 d1 d2 d3 wt kp)] (fun v _ => some v) = some (.bool (T line hart s wt mk ml mf mt)) := by
  rw [y_tree, kind_tree]; unfold T
  generalize kindT s wt mk = k
  generalize (mt != hart) = b1
  generalize (mf != -1) = b2
  generalize (ml != line) = b3
  cases b1 <;> cases b2 <;> cases b3 <;> cases k <;> rfl
/-! ### What is known of these two calls -/
def readX : Option (Option Blk) → Option (Int × Int × Int × Int × Int × Int × Int × Int × Int)
  | some (some ⟨[.int .i64 line, .int .i64 hart, .int .i64 s, .int .u32 d0, .int .u32 d1, .int .u32 d2, .int .u32 d3, .int .i64 wt, .int .i64 kp], t, none⟩) => bif Nat.beq t 74 then some (line, hart, s, d0, d1, d2, d3, wt, kp) else none
  | _ => none
theorem readX_eq {b : Option (Option Blk)} {line hart s d0 d1 d2 d3 wt kp : Int} (h : readX b = some (line, hart, s, d0, d1, d2, d3, wt, kp)) : b = some (some (xB line hart s d0 d1 d2 d3 wt kp)) := by
  unfold readX at h
  split at h
  · rename_i t
    cases ht : Nat.beq t 74 with
    | true => rw [ht, cond_true] at h; cases h; rw [Nat.eq_of_beq_eq_true ht]; rfl
    | false => rw [ht, cond_false] at h; cases h
  · cases h
def readY : Option (Option Blk) → Option (Int × Int × Int × Int × Int × Int × Int × Int × Int)
  | some (some ⟨[.int .i64 line, .int .i64 hart, .int .i64 s, .int .i64 wt, .int .u32 d0, .int .u32 d1, .int .u32 d2, .int .u32 d3, .int .i64 kp], t, none⟩) => bif Nat.beq t 69 then some (line, hart, s, d0, d1, d2, d3, wt, kp) else none
  | _ => none
theorem readY_eq {b : Option (Option Blk)} {line hart s d0 d1 d2 d3 wt kp : Int} (h : readY b = some (line, hart, s, d0, d1, d2, d3, wt, kp)) : b = some (some (yB line hart s d0 d1 d2 d3 wt kp)) := by
  unfold readY at h
  split at h
  · rename_i t
    cases ht : Nat.beq t 69 with
    | true => rw [ht, cond_true] at h; cases h; rw [Nat.eq_of_beq_eq_true ht]; rfl
    | false => rw [ht, cond_false] at h; cases h
  · cases h
def readM : Value → Option (Int × Int × Int × Int × Int × Int × Int × Int × Bool × Bool × Bool)
  | .agg ⟨[.int .i64 mk, .int .i64 ml, .int .i64 mf, .int .i64 mt, .int .u32 m0, .int .u32 m1, .int .u32 m2, .int .u32 m3, .bool h, .bool d, .bool a]⟩ => some (mk, ml, mf, mt, m0, m1, m2, m3, h, d, a)
  | _ => none
theorem readM_eq {v : Value} {mk ml mf mt m0 m1 m2 m3 : Int} {hh d a : Bool} (h : readM v = some (mk, ml, mf, mt, m0, m1, m2, m3, hh, d, a)) : v = mV mk ml mf mt m0 m1 m2 m3 hh d a := by
  unfold readM at h
  split at h
  · cases h; rfl
  · cases h
def tkΦ : Nat → FuncId → List Value → Heap → Option (Value × Heap)
  | _, f, [.pointer (some ⟨b, 0, none⟩), m], H =>
    bif Nat.beq f 17 then (match readX H[b]? with
      | some (line, hart, s, _, _, _, _, wt, _) => match readM m with
        | some (mk, ml, mf, mt, _) => some (.bool (T line hart s wt mk ml mf mt), H)
        | none => none
      | none => none)
    else bif Nat.beq f 36 then (match readY H[b]? with
      | some (line, hart, s, _, _, _, _, wt, _) => match readM m with
        | some (mk, ml, mf, mt, _) => some (.bool (T line hart s wt mk ml mf mt), H)
        | none => none
      | none => none)
    else none
  | _, _, _, _ => none
theorem tkOK : CtxOK Try.prog (ctx tkΦ) := by
  refine ctxOK fun lo f args H v H' h => ?_
  unfold tkΦ at h
  split at h
  · rename_i b m
    cases hf : Nat.beq f 17 with
    | true =>
      rw [hf, cond_true] at h
      obtain rfl := Nat.eq_of_beq_eq_true hf
      split at h
      · rename_i line hart s d0 d1 d2 d3 wt kp hx
        split at h
        · rename_i mk ml mf mt rest hm
          cases h
          obtain ⟨m0, m1, m2, m3, hh, d, a⟩ := rest
          rw [readM_eq hm]
          exact ⟨CallOK.quiet noOK (x_takes line hart s d0 d1 d2 d3 wt kp mk ml mf mt m0 m1 m2 m3 hh d a) rfl rfl rfl rfl lo H (readX_eq hx), by kernel_rfl⟩
        · cases h
      · cases h
    | false =>
      rw [hf, cond_false] at h
      cases hg : Nat.beq f 36 with
      | true =>
        rw [hg, cond_true] at h
        obtain rfl := Nat.eq_of_beq_eq_true hg
        split at h
        · rename_i line hart s d0 d1 d2 d3 wt kp hx
          split at h
          · rename_i mk ml mf mt rest hm
            cases h
            obtain ⟨m0, m1, m2, m3, hh, d, a⟩ := rest
            rw [readM_eq hm]
            exact ⟨CallOK.quiet noOK (y_takes line hart s d0 d1 d2 d3 wt kp mk ml mf mt m0 m1 m2 m3 hh d a) rfl rfl rfl rfl lo H (readY_eq hx), by kernel_rfl⟩
          · cases h
        · cases h
      | false => rw [hg, cond_false] at h; cases h
  · cases h
end Go.Proofs.Ytecmjcfhbedelaa.Ab
