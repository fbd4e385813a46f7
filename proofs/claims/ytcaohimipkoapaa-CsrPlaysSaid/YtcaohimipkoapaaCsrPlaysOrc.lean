/- CsrPlays: what is told of the two files; numbers of no register: where they lie is known at once. -/
import Derived.Test.YtcaohimipkoapaaAbC
import Derived.Test.YtcaohimipkoapaaAb19
namespace Go.Proofs.Ytcaohimipkoapaa.Ab.CP
open Go Go.RowKit
set_option linter.unusedVariables false
set_option linter.unusedSimpArgs false
def fB (u : Bool) (v0 v1 v2 v3 v4 v5 v6 v7 v8 v9 : Int) : Blk := { cells := [.bool u, .int .u32 v0, .int .u32 v1, .int .u32 v2, .int .u32 v3, .int .u32 v4, .int .u32 v5, .int .u32 v6, .int .u32 v7, .int .u32 v8, .int .u32 v9], elem := 38 }
def xB (m : Int) (v0 v1 v2 v3 v4 v5 v6 v7 v8 v9 : Int) : Blk := { cells := [.int .i64 m, .int .u32 v0, .int .u32 v1, .int .u32 v2, .int .u32 v3, .int .u32 v4, .int .u32 v5, .int .u32 v6, .int .u32 v7, .int .u32 v8, .int .u32 v9], elem := 56 }
/-- A number of no register. -/
def other (n : Int) : Bool := !(n == 384) && (!(n == 768) && (!(n == 772) && (!(n == 773) && (!(n == 832) && (!(n == 833) && (!(n == 834) && (!(n == 835) && (!(n == 836) && !(n == 3860)))))))))
theorem f_tree (n v0 v1 v2 v3 v4 v5 v6 v7 v8 v9 : Int) (u : Bool) : callK (ctx noΦ) 3 1 48 [.pointer (some ⟨0, 0, none⟩), .int .i64 n] [some (fB u v0 v1 v2 v3 v4 v5 v6 v7 v8 v9)] (fun v _ => some v) =
  (bif n == 384 then some (.pointer (some ⟨0, 1, none⟩)) else bif n == 768 then some (.pointer (some ⟨0, 2, none⟩)) else bif n == 772 then some (.pointer (some ⟨0, 3, none⟩)) else bif n == 773 then some (.pointer (some ⟨0, 4, none⟩)) else bif n == 832 then some (.pointer (some ⟨0, 5, none⟩)) else bif n == 833 then some (.pointer (some ⟨0, 6, none⟩)) else bif n == 834 then some (.pointer (some ⟨0, 7, none⟩)) else bif n == 835 then some (.pointer (some ⟨0, 8, none⟩)) else bif n == 836 then some (.pointer (some ⟨0, 9, none⟩)) else bif n == 3860 then some (.pointer (some ⟨0, 10, none⟩)) else some (.pointer none)) := by kernel_rfl
theorem x_tree (n : Int) : callK (ctx noΦ) 16 0 50 [.int .i64 n] [] (fun v _ => some v) =
  (bif 384 == n then some (.int .i64 0) else bif 768 == n then some (.int .i64 1) else bif 772 == n then some (.int .i64 2) else bif 773 == n then some (.int .i64 3) else bif 832 == n then some (.int .i64 4) else bif 833 == n then some (.int .i64 5) else bif 834 == n then some (.int .i64 6) else bif 835 == n then some (.int .i64 7) else bif 836 == n then some (.int .i64 8) else bif 3860 == n then some (.int .i64 9) else some (.int .i64 (-1))) := by kernel_rfl
theorem other_ne {n : Int} (h : other n = true) : (n == 384) = false ∧ (n == 768) = false ∧ (n == 772) = false ∧ (n == 773) = false ∧ (n == 832) = false ∧ (n == 833) = false ∧ (n == 834) = false ∧ (n == 835) = false ∧ (n == 836) = false ∧ (n == 3860) = false := by
  unfold other at h
  simp only [Bool.and_eq_true, Bool.not_eq_true'] at h
  exact h
theorem swap_beq (a b : Int) : (a == b) = (b == a) := by
  by_cases h : a = b
  · subst h; rfl
  · rw [beq_eq_false_iff_ne.2 h, beq_eq_false_iff_ne.2 (Ne.symm h)]
theorem f_other {n : Int} (h : other n = true) (v0 v1 v2 v3 v4 v5 v6 v7 v8 v9 : Int) (u : Bool) : callK (ctx noΦ) 3 1 48 [.pointer (some ⟨0, 0, none⟩), .int .i64 n] [some (fB u v0 v1 v2 v3 v4 v5 v6 v7 v8 v9)] (fun v _ => some v) = some (.pointer none) := by
  obtain ⟨h1, h2, h3, h4, h5, h6, h7, h8, h9, h10⟩ := other_ne h
  rw [f_tree, h1, h2, h3, h4, h5, h6, h7, h8, h9, h10]; rfl
theorem x_other {n : Int} (h : other n = true) : callK (ctx noΦ) 16 0 50 [.int .i64 n] [] (fun v _ => some v) = some (.int .i64 (-1)) := by
  obtain ⟨h1, h2, h3, h4, h5, h6, h7, h8, h9, h10⟩ := other_ne h
  rw [x_tree, swap_beq, h1, swap_beq, h2, swap_beq, h3, swap_beq, h4, swap_beq, h5, swap_beq, h6, swap_beq, h7, swap_beq, h8, swap_beq, h9, swap_beq, h10]; rfl
/-- The ten numbers, and all others. -/
theorem kinds (n : Int) : n = 384 ∨ n = 768 ∨ n = 772 ∨ n = 773 ∨ n = 832 ∨ n = 833 ∨ n = 834 ∨ n = 835 ∨ n = 836 ∨ n = 3860 ∨ other n = true := by
  by_cases h1 : n = 384
  · exact .inl h1
  refine .inr ?_
  by_cases h2 : n = 768
  · exact .inl h2
  refine .inr ?_
  by_cases h3 : n = 772
  · exact .inl h3
  refine .inr ?_
  by_cases h4 : n = 773
  · exact .inl h4
  refine .inr ?_
  by_cases h5 : n = 832
  · exact .inl h5
  refine .inr ?_
  by_cases h6 : n = 833
  · exact .inl h6
  refine .inr ?_
  by_cases h7 : n = 834
  · exact .inl h7
  refine .inr ?_
  by_cases h8 : n = 835
  · exact .inl h8
  refine .inr ?_
  by_cases h9 : n = 836
  · exact .inl h9
  refine .inr ?_
  by_cases h10 : n = 3860
  · exact .inl h10
  refine .inr ?_
  unfold other
  simp [h1, h2, h3, h4, h5, h6, h7, h8, h9, h10]
def readF : Option (Option Blk) → Option (Bool × Int × Int × Int × Int × Int × Int × Int × Int × Int × Int)
  | some (some ⟨[.bool u, .int .u32 v0, .int .u32 v1, .int .u32 v2, .int .u32 v3, .int .u32 v4, .int .u32 v5, .int .u32 v6, .int .u32 v7, .int .u32 v8, .int .u32 v9], t, none⟩) => bif Nat.beq t 38 then some (u, v0, v1, v2, v3, v4, v5, v6, v7, v8, v9) else none
  | _ => none
theorem readF_eq {b : Option (Option Blk)} {u : Bool} {v0 v1 v2 v3 v4 v5 v6 v7 v8 v9 : Int} (h : readF b = some (u, v0, v1, v2, v3, v4, v5, v6, v7, v8, v9)) : b = some (some (fB u v0 v1 v2 v3 v4 v5 v6 v7 v8 v9)) := by
  unfold readF at h
  split at h
  · rename_i t
    cases ht : Nat.beq t 38 with
    | true => rw [ht, cond_true] at h; cases h; rw [Nat.eq_of_beq_eq_true ht]; rfl
    | false => rw [ht, cond_false] at h; cases h
  · cases h
/-- Where a number of no register lies: nowhere. -/
def noΨ : Oracle
  | _, f, [.pointer (some ⟨b, 0, none⟩), .int .i64 n], H => bif Nat.beq f 48 then (match readF H[b]? with
      | some _ => some (other n, .pointer none, H)
      | none => none) else none
  | _, f, [.int .i64 n], H => bif Nat.beq f 50 then some (other n, .int .i64 (-1), H) else none
  | _, _, _, _ => none
theorem noOK' : CtxOK Try.prog (ctx noΨ) := by
  refine ctxOK fun lo f args H v H' h => ?_
  unfold noΨ at h
  split at h
  · rename_i b n
    cases hf : Nat.beq f 48 with
    | true =>
      rw [hf, cond_true] at h
      obtain rfl := Nat.eq_of_beq_eq_true hf
      split at h
      · rename_i r hr
        obtain ⟨u, v0, v1, v2, v3, v4, v5, v6, v7, v8, v9⟩ := r
        simp only [Option.some.injEq, Prod.mk.injEq] at h
        obtain ⟨ho, rfl, rfl⟩ := h
        exact ⟨CallOK.quiet noOK (f_other ho v0 v1 v2 v3 v4 v5 v6 v7 v8 v9 u) rfl rfl rfl rfl lo H (readF_eq hr), by kernel_rfl⟩
      · cases h
    | false => rw [hf, cond_false] at h; cases h
  · rename_i n
    cases hf : Nat.beq f 50 with
    | true =>
      rw [hf, cond_true] at h
      obtain rfl := Nat.eq_of_beq_eq_true hf
      simp only [Option.some.injEq, Prod.mk.injEq] at h
      obtain ⟨ho, rfl, rfl⟩ := h
      exact ⟨CallOK.plain noOK (x_other ho) rfl rfl lo H, by kernel_rfl⟩
    | false => rw [hf, cond_false] at h; cases h
  · cases h
end Go.Proofs.Ytcaohimipkoapaa.Ab.CP
