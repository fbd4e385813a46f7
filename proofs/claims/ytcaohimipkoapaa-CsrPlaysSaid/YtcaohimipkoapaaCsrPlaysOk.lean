/- CsrPlays: what a round's pieces come to: both files have the same again. Laid by wip/ab/gen_cp2.py. -/
import Derived.Test.YtcaohimipkoapaaCsrPlaysRuns
import Derived.Test.YtcaohimipkoapaaCsrPlaysBits
namespace Go.Proofs.Ytcaohimipkoapaa.Ab.CP
open Go Go.RowKit
set_option linter.unusedVariables false
set_option linter.unusedSimpArgs false
/-- A piece of a round comes to the same in both files. -/
def Comes (p : List Code) (n i : Nat) (k : Int) (u : Bool) (v0 v1 v2 v3 v4 v5 v6 v7 v8 v9 : Int) (D C W : Blk) : Prop :=
  ∃ (Ψ : Oracle) (u' : Bool) (w0 w1 w2 w3 w4 w5 w6 w7 w8 w9 : Int), CtxOK Try.prog (ctx Ψ) ∧ run Ψ p (midF n (Int.ofNat i) k) (midH (fB u v0 v1 v2 v3 v4 v5 v6 v7 v8 v9) (xB (md u) v0 v1 v2 v3 v4 v5 v6 v7 v8 v9) D C W) leafM = GO n i k u' w0 w1 w2 w3 w4 w5 w6 w7 w8 w9 D C W
theorem arm1_ok (u : Bool) (n i : Nat) (k nn vv ww pc v0 v1 v2 v3 v4 v5 v6 v7 v8 v9 c0 c1 c2 c3 c4 c5 c6 c7 c8 c9 : Int) (cu : Bool) : Comes (flat arm1) n i k u v0 v1 v2 v3 v4 v5 v6 v7 v8 v9 (dB k nn vv ww pc) (fB cu c0 c1 c2 c3 c4 c5 c6 c7 c8 c9) (wB c0 c1 c2 c3 c4 c5 c6 c7 c8 c9) := by
  rcases kinds nn with rfl | rfl | rfl | rfl | rfl | rfl | rfl | rfl | rfl | rfl | ho
  · cases u with
    | true =>
      have h := arm1_u_384 n i k 0 vv ww pc v0 v1 v2 v3 v4 v5 v6 v7 v8 v9 c0 c1 c2 c3 c4 c5 c6 c7 c8 c9 cu
      exact ⟨noΦ, _, _, _, _, _, _, _, _, _, _, _, noOK, h⟩
    | false =>
      have h := arm1_m_384 n i k 0 vv ww pc v0 v1 v2 v3 v4 v5 v6 v7 v8 v9 c0 c1 c2 c3 c4 c5 c6 c7 c8 c9 cu
      exact ⟨noΦ, _, _, _, _, _, _, _, _, _, _, _, noOK, h⟩
  · cases u with
    | true =>
      have h := arm1_u_768 n i k 0 vv ww pc v0 v1 v2 v3 v4 v5 v6 v7 v8 v9 c0 c1 c2 c3 c4 c5 c6 c7 c8 c9 cu
      exact ⟨noΦ, _, _, _, _, _, _, _, _, _, _, _, noOK, h⟩
    | false =>
      have h := arm1_m_768 n i k 0 vv ww pc v0 v1 v2 v3 v4 v5 v6 v7 v8 v9 c0 c1 c2 c3 c4 c5 c6 c7 c8 c9 cu
      rw [top] at h
      cases hb : (bits .and .u32 vv 6144 == 6144) <;> rw [hb] at h <;> exact ⟨noΦ, _, _, _, _, _, _, _, _, _, _, _, noOK, h⟩
  · cases u with
    | true =>
      have h := arm1_u_772 n i k 0 vv ww pc v0 v1 v2 v3 v4 v5 v6 v7 v8 v9 c0 c1 c2 c3 c4 c5 c6 c7 c8 c9 cu
      exact ⟨noΦ, _, _, _, _, _, _, _, _, _, _, _, noOK, h⟩
    | false =>
      have h := arm1_m_772 n i k 0 vv ww pc v0 v1 v2 v3 v4 v5 v6 v7 v8 v9 c0 c1 c2 c3 c4 c5 c6 c7 c8 c9 cu
      exact ⟨noΦ, _, _, _, _, _, _, _, _, _, _, _, noOK, h⟩
  · cases u with
    | true =>
      have h := arm1_u_773 n i k 0 vv ww pc v0 v1 v2 v3 v4 v5 v6 v7 v8 v9 c0 c1 c2 c3 c4 c5 c6 c7 c8 c9 cu
      exact ⟨noΦ, _, _, _, _, _, _, _, _, _, _, _, noOK, h⟩
    | false =>
      have h := arm1_m_773 n i k 0 vv ww pc v0 v1 v2 v3 v4 v5 v6 v7 v8 v9 c0 c1 c2 c3 c4 c5 c6 c7 c8 c9 cu
      rw [aligned] at h
      exact ⟨noΦ, _, _, _, _, _, _, _, _, _, _, _, noOK, h⟩
  · cases u with
    | true =>
      have h := arm1_u_832 n i k 0 vv ww pc v0 v1 v2 v3 v4 v5 v6 v7 v8 v9 c0 c1 c2 c3 c4 c5 c6 c7 c8 c9 cu
      exact ⟨noΦ, _, _, _, _, _, _, _, _, _, _, _, noOK, h⟩
    | false =>
      have h := arm1_m_832 n i k 0 vv ww pc v0 v1 v2 v3 v4 v5 v6 v7 v8 v9 c0 c1 c2 c3 c4 c5 c6 c7 c8 c9 cu
      exact ⟨noΦ, _, _, _, _, _, _, _, _, _, _, _, noOK, h⟩
  · cases u with
    | true =>
      have h := arm1_u_833 n i k 0 vv ww pc v0 v1 v2 v3 v4 v5 v6 v7 v8 v9 c0 c1 c2 c3 c4 c5 c6 c7 c8 c9 cu
      exact ⟨noΦ, _, _, _, _, _, _, _, _, _, _, _, noOK, h⟩
    | false =>
      have h := arm1_m_833 n i k 0 vv ww pc v0 v1 v2 v3 v4 v5 v6 v7 v8 v9 c0 c1 c2 c3 c4 c5 c6 c7 c8 c9 cu
      rw [aligned] at h
      exact ⟨noΦ, _, _, _, _, _, _, _, _, _, _, _, noOK, h⟩
  · cases u with
    | true =>
      have h := arm1_u_834 n i k 0 vv ww pc v0 v1 v2 v3 v4 v5 v6 v7 v8 v9 c0 c1 c2 c3 c4 c5 c6 c7 c8 c9 cu
      exact ⟨noΦ, _, _, _, _, _, _, _, _, _, _, _, noOK, h⟩
    | false =>
      have h := arm1_m_834 n i k 0 vv ww pc v0 v1 v2 v3 v4 v5 v6 v7 v8 v9 c0 c1 c2 c3 c4 c5 c6 c7 c8 c9 cu
      exact ⟨noΦ, _, _, _, _, _, _, _, _, _, _, _, noOK, h⟩
  · cases u with
    | true =>
      have h := arm1_u_835 n i k 0 vv ww pc v0 v1 v2 v3 v4 v5 v6 v7 v8 v9 c0 c1 c2 c3 c4 c5 c6 c7 c8 c9 cu
      exact ⟨noΦ, _, _, _, _, _, _, _, _, _, _, _, noOK, h⟩
    | false =>
      have h := arm1_m_835 n i k 0 vv ww pc v0 v1 v2 v3 v4 v5 v6 v7 v8 v9 c0 c1 c2 c3 c4 c5 c6 c7 c8 c9 cu
      exact ⟨noΦ, _, _, _, _, _, _, _, _, _, _, _, noOK, h⟩
  · cases u with
    | true =>
      have h := arm1_u_836 n i k 0 vv ww pc v0 v1 v2 v3 v4 v5 v6 v7 v8 v9 c0 c1 c2 c3 c4 c5 c6 c7 c8 c9 cu
      exact ⟨noΦ, _, _, _, _, _, _, _, _, _, _, _, noOK, h⟩
    | false =>
      have h := arm1_m_836 n i k 0 vv ww pc v0 v1 v2 v3 v4 v5 v6 v7 v8 v9 c0 c1 c2 c3 c4 c5 c6 c7 c8 c9 cu
      exact ⟨noΦ, _, _, _, _, _, _, _, _, _, _, _, noOK, h⟩
  · cases u with
    | true =>
      have h := arm1_u_3860 n i k 0 vv ww pc v0 v1 v2 v3 v4 v5 v6 v7 v8 v9 c0 c1 c2 c3 c4 c5 c6 c7 c8 c9 cu
      exact ⟨noΦ, _, _, _, _, _, _, _, _, _, _, _, noOK, h⟩
    | false =>
      have h := arm1_m_3860 n i k 0 vv ww pc v0 v1 v2 v3 v4 v5 v6 v7 v8 v9 c0 c1 c2 c3 c4 c5 c6 c7 c8 c9 cu
      exact ⟨noΦ, _, _, _, _, _, _, _, _, _, _, _, noOK, h⟩
  · cases u with
    | true =>
      have h := arm1_u_o n i k nn vv ww pc v0 v1 v2 v3 v4 v5 v6 v7 v8 v9 c0 c1 c2 c3 c4 c5 c6 c7 c8 c9 cu
      rw [ho, cond_true, cond_true] at h
      exact ⟨noΨ, _, _, _, _, _, _, _, _, _, _, _, noOK', h⟩
    | false =>
      have h := arm1_m_o n i k nn vv ww pc v0 v1 v2 v3 v4 v5 v6 v7 v8 v9 c0 c1 c2 c3 c4 c5 c6 c7 c8 c9 cu
      rw [ho, cond_true, cond_true] at h
      exact ⟨noΨ, _, _, _, _, _, _, _, _, _, _, _, noOK', h⟩
theorem armD_ok (u : Bool) (n i : Nat) (k nn vv ww pc v0 v1 v2 v3 v4 v5 v6 v7 v8 v9 c0 c1 c2 c3 c4 c5 c6 c7 c8 c9 : Int) (cu : Bool) : Comes (flat armD) n i k u v0 v1 v2 v3 v4 v5 v6 v7 v8 v9 (dB k nn vv ww pc) (fB cu c0 c1 c2 c3 c4 c5 c6 c7 c8 c9) (wB c0 c1 c2 c3 c4 c5 c6 c7 c8 c9) := by
  rcases kinds nn with rfl | rfl | rfl | rfl | rfl | rfl | rfl | rfl | rfl | rfl | ho
  · cases u with
    | true =>
      have h := armD_u_384 n i k 0 vv ww pc v0 v1 v2 v3 v4 v5 v6 v7 v8 v9 c0 c1 c2 c3 c4 c5 c6 c7 c8 c9 cu
      exact ⟨noΦ, _, _, _, _, _, _, _, _, _, _, _, noOK, h⟩
    | false =>
      have h := armD_m_384 n i k 0 vv ww pc v0 v1 v2 v3 v4 v5 v6 v7 v8 v9 c0 c1 c2 c3 c4 c5 c6 c7 c8 c9 cu
      simp only [bne_self_eq_false, beq_self_eq_true, cond_true, cond_false] at h
      exact ⟨noΦ, _, _, _, _, _, _, _, _, _, _, _, noOK, h⟩
  · cases u with
    | true =>
      have h := armD_u_768 n i k 0 vv ww pc v0 v1 v2 v3 v4 v5 v6 v7 v8 v9 c0 c1 c2 c3 c4 c5 c6 c7 c8 c9 cu
      exact ⟨noΦ, _, _, _, _, _, _, _, _, _, _, _, noOK, h⟩
    | false =>
      have h := armD_m_768 n i k 0 vv ww pc v0 v1 v2 v3 v4 v5 v6 v7 v8 v9 c0 c1 c2 c3 c4 c5 c6 c7 c8 c9 cu
      simp only [bne_self_eq_false, beq_self_eq_true, cond_true, cond_false] at h
      exact ⟨noΦ, _, _, _, _, _, _, _, _, _, _, _, noOK, h⟩
  · cases u with
    | true =>
      have h := armD_u_772 n i k 0 vv ww pc v0 v1 v2 v3 v4 v5 v6 v7 v8 v9 c0 c1 c2 c3 c4 c5 c6 c7 c8 c9 cu
      exact ⟨noΦ, _, _, _, _, _, _, _, _, _, _, _, noOK, h⟩
    | false =>
      have h := armD_m_772 n i k 0 vv ww pc v0 v1 v2 v3 v4 v5 v6 v7 v8 v9 c0 c1 c2 c3 c4 c5 c6 c7 c8 c9 cu
      simp only [bne_self_eq_false, beq_self_eq_true, cond_true, cond_false] at h
      exact ⟨noΦ, _, _, _, _, _, _, _, _, _, _, _, noOK, h⟩
  · cases u with
    | true =>
      have h := armD_u_773 n i k 0 vv ww pc v0 v1 v2 v3 v4 v5 v6 v7 v8 v9 c0 c1 c2 c3 c4 c5 c6 c7 c8 c9 cu
      exact ⟨noΦ, _, _, _, _, _, _, _, _, _, _, _, noOK, h⟩
    | false =>
      have h := armD_m_773 n i k 0 vv ww pc v0 v1 v2 v3 v4 v5 v6 v7 v8 v9 c0 c1 c2 c3 c4 c5 c6 c7 c8 c9 cu
      simp only [bne_self_eq_false, beq_self_eq_true, cond_true, cond_false] at h
      exact ⟨noΦ, _, _, _, _, _, _, _, _, _, _, _, noOK, h⟩
  · cases u with
    | true =>
      have h := armD_u_832 n i k 0 vv ww pc v0 v1 v2 v3 v4 v5 v6 v7 v8 v9 c0 c1 c2 c3 c4 c5 c6 c7 c8 c9 cu
      exact ⟨noΦ, _, _, _, _, _, _, _, _, _, _, _, noOK, h⟩
    | false =>
      have h := armD_m_832 n i k 0 vv ww pc v0 v1 v2 v3 v4 v5 v6 v7 v8 v9 c0 c1 c2 c3 c4 c5 c6 c7 c8 c9 cu
      simp only [bne_self_eq_false, beq_self_eq_true, cond_true, cond_false] at h
      exact ⟨noΦ, _, _, _, _, _, _, _, _, _, _, _, noOK, h⟩
  · cases u with
    | true =>
      have h := armD_u_833 n i k 0 vv ww pc v0 v1 v2 v3 v4 v5 v6 v7 v8 v9 c0 c1 c2 c3 c4 c5 c6 c7 c8 c9 cu
      exact ⟨noΦ, _, _, _, _, _, _, _, _, _, _, _, noOK, h⟩
    | false =>
      have h := armD_m_833 n i k 0 vv ww pc v0 v1 v2 v3 v4 v5 v6 v7 v8 v9 c0 c1 c2 c3 c4 c5 c6 c7 c8 c9 cu
      simp only [bne_self_eq_false, beq_self_eq_true, cond_true, cond_false] at h
      exact ⟨noΦ, _, _, _, _, _, _, _, _, _, _, _, noOK, h⟩
  · cases u with
    | true =>
      have h := armD_u_834 n i k 0 vv ww pc v0 v1 v2 v3 v4 v5 v6 v7 v8 v9 c0 c1 c2 c3 c4 c5 c6 c7 c8 c9 cu
      exact ⟨noΦ, _, _, _, _, _, _, _, _, _, _, _, noOK, h⟩
    | false =>
      have h := armD_m_834 n i k 0 vv ww pc v0 v1 v2 v3 v4 v5 v6 v7 v8 v9 c0 c1 c2 c3 c4 c5 c6 c7 c8 c9 cu
      simp only [bne_self_eq_false, beq_self_eq_true, cond_true, cond_false] at h
      exact ⟨noΦ, _, _, _, _, _, _, _, _, _, _, _, noOK, h⟩
  · cases u with
    | true =>
      have h := armD_u_835 n i k 0 vv ww pc v0 v1 v2 v3 v4 v5 v6 v7 v8 v9 c0 c1 c2 c3 c4 c5 c6 c7 c8 c9 cu
      exact ⟨noΦ, _, _, _, _, _, _, _, _, _, _, _, noOK, h⟩
    | false =>
      have h := armD_m_835 n i k 0 vv ww pc v0 v1 v2 v3 v4 v5 v6 v7 v8 v9 c0 c1 c2 c3 c4 c5 c6 c7 c8 c9 cu
      simp only [bne_self_eq_false, beq_self_eq_true, cond_true, cond_false] at h
      exact ⟨noΦ, _, _, _, _, _, _, _, _, _, _, _, noOK, h⟩
  · cases u with
    | true =>
      have h := armD_u_836 n i k 0 vv ww pc v0 v1 v2 v3 v4 v5 v6 v7 v8 v9 c0 c1 c2 c3 c4 c5 c6 c7 c8 c9 cu
      exact ⟨noΦ, _, _, _, _, _, _, _, _, _, _, _, noOK, h⟩
    | false =>
      have h := armD_m_836 n i k 0 vv ww pc v0 v1 v2 v3 v4 v5 v6 v7 v8 v9 c0 c1 c2 c3 c4 c5 c6 c7 c8 c9 cu
      simp only [bne_self_eq_false, beq_self_eq_true, cond_true, cond_false] at h
      exact ⟨noΦ, _, _, _, _, _, _, _, _, _, _, _, noOK, h⟩
  · cases u with
    | true =>
      have h := armD_u_3860 n i k 0 vv ww pc v0 v1 v2 v3 v4 v5 v6 v7 v8 v9 c0 c1 c2 c3 c4 c5 c6 c7 c8 c9 cu
      exact ⟨noΦ, _, _, _, _, _, _, _, _, _, _, _, noOK, h⟩
    | false =>
      have h := armD_m_3860 n i k 0 vv ww pc v0 v1 v2 v3 v4 v5 v6 v7 v8 v9 c0 c1 c2 c3 c4 c5 c6 c7 c8 c9 cu
      simp only [bne_self_eq_false, beq_self_eq_true, cond_true, cond_false] at h
      exact ⟨noΦ, _, _, _, _, _, _, _, _, _, _, _, noOK, h⟩
  · cases u with
    | true =>
      have h := armD_u_o n i k nn vv ww pc v0 v1 v2 v3 v4 v5 v6 v7 v8 v9 c0 c1 c2 c3 c4 c5 c6 c7 c8 c9 cu
      rw [ho, cond_true, cond_true] at h
      exact ⟨noΨ, _, _, _, _, _, _, _, _, _, _, _, noOK', h⟩
    | false =>
      have h := armD_m_o n i k nn vv ww pc v0 v1 v2 v3 v4 v5 v6 v7 v8 v9 c0 c1 c2 c3 c4 c5 c6 c7 c8 c9 cu
      rw [ho, cond_true, cond_true] at h
      exact ⟨noΨ, _, _, _, _, _, _, _, _, _, _, _, noOK', h⟩
theorem arm2_ok (u : Bool) (n i : Nat) (k nn vv ww pc v0 v1 v2 v3 v4 v5 v6 v7 v8 v9 c0 c1 c2 c3 c4 c5 c6 c7 c8 c9 : Int) (cu : Bool) : Comes (flat arm2) n i k u v0 v1 v2 v3 v4 v5 v6 v7 v8 v9 (dB k nn vv ww pc) (fB cu c0 c1 c2 c3 c4 c5 c6 c7 c8 c9) (wB c0 c1 c2 c3 c4 c5 c6 c7 c8 c9) := by
  cases u with
  | true =>
    have h := arm2_u n i k nn vv ww pc v0 v1 v2 v3 v4 v5 v6 v7 v8 v9 c0 c1 c2 c3 c4 c5 c6 c7 c8 c9 cu
    cases hb : (nn == 1) <;> rw [hb] at h <;> simp only [cond_true, cond_false] at h <;> exact ⟨noΦ, _, _, _, _, _, _, _, _, _, _, _, noOK, h⟩
  | false =>
    have h := arm2_m n i k nn vv ww pc v0 v1 v2 v3 v4 v5 v6 v7 v8 v9 c0 c1 c2 c3 c4 c5 c6 c7 c8 c9 cu
    cases hb : (nn == 1) <;> rw [hb] at h <;> simp only [cond_true, cond_false] at h <;> exact ⟨noΦ, _, _, _, _, _, _, _, _, _, _, _, noOK, h⟩
theorem arm3_ok (u : Bool) (n i : Nat) (k nn vv ww pc v0 v1 v2 v3 v4 v5 v6 v7 v8 v9 c0 c1 c2 c3 c4 c5 c6 c7 c8 c9 : Int) (cu : Bool) : Comes (flat arm3) n i k u v0 v1 v2 v3 v4 v5 v6 v7 v8 v9 (dB k nn vv ww pc) (fB cu c0 c1 c2 c3 c4 c5 c6 c7 c8 c9) (wB c0 c1 c2 c3 c4 c5 c6 c7 c8 c9) := by
  cases u with
  | true =>
    have h := arm3_u n i k nn vv ww pc v0 v1 v2 v3 v4 v5 v6 v7 v8 v9 c0 c1 c2 c3 c4 c5 c6 c7 c8 c9 cu
    rw [aligned] at h
    rcases trap_bits v1 with ⟨hb, h1, h2⟩ | ⟨hb, h1, h2⟩ <;> rw [hb, h2] at h <;> simp only [bne_self_eq_false, beq_self_eq_true, cond_true, cond_false] at h <;> exact ⟨noΦ, _, _, _, _, _, _, _, _, _, _, _, noOK, h⟩
  | false =>
    have h := arm3_m n i k nn vv ww pc v0 v1 v2 v3 v4 v5 v6 v7 v8 v9 c0 c1 c2 c3 c4 c5 c6 c7 c8 c9 cu
    rw [aligned] at h
    rcases trap_bits v1 with ⟨hb, h1, h2⟩ | ⟨hb, h1, h2⟩ <;> rw [hb, h1] at h <;> simp only [bne_self_eq_false, beq_self_eq_true, cond_true, cond_false] at h <;> exact ⟨noΦ, _, _, _, _, _, _, _, _, _, _, _, noOK, h⟩
theorem arm4_ok (u : Bool) (n i : Nat) (k nn vv ww pc v0 v1 v2 v3 v4 v5 v6 v7 v8 v9 c0 c1 c2 c3 c4 c5 c6 c7 c8 c9 : Int) (cu : Bool) : Comes (flat arm4) n i k u v0 v1 v2 v3 v4 v5 v6 v7 v8 v9 (dB k nn vv ww pc) (fB cu c0 c1 c2 c3 c4 c5 c6 c7 c8 c9) (wB c0 c1 c2 c3 c4 c5 c6 c7 c8 c9) := by
  cases u with
  | true =>
    have h := arm4_u n i k nn vv ww pc v0 v1 v2 v3 v4 v5 v6 v7 v8 v9 c0 c1 c2 c3 c4 c5 c6 c7 c8 c9 cu
    rw [top'] at h
    rcases ret_bits v1 with ⟨hb, h1⟩ | ⟨hb, h1⟩ <;> rw [hb, h1] at h <;> simp only [bne_self_eq_false, cond_true, cond_false] at h <;> cases ht : (bits .and .u32 v1 6144 == 6144) <;> rw [ht] at h <;> exact ⟨noΦ, _, _, _, _, _, _, _, _, _, _, _, noOK, h⟩
  | false =>
    have h := arm4_m n i k nn vv ww pc v0 v1 v2 v3 v4 v5 v6 v7 v8 v9 c0 c1 c2 c3 c4 c5 c6 c7 c8 c9 cu
    rw [top'] at h
    rcases ret_bits v1 with ⟨hb, h1⟩ | ⟨hb, h1⟩ <;> rw [hb, h1] at h <;> simp only [bne_self_eq_false, cond_true, cond_false] at h <;> cases ht : (bits .and .u32 v1 6144 == 6144) <;> rw [ht] at h <;> exact ⟨noΦ, _, _, _, _, _, _, _, _, _, _, _, noOK, h⟩
theorem back_ok (u : Bool) (n i : Nat) (k nn vv ww pc v0 v1 v2 v3 v4 v5 v6 v7 v8 v9 c0 c1 c2 c3 c4 c5 c6 c7 c8 c9 : Int) (cu : Bool) : Comes back n i k u v0 v1 v2 v3 v4 v5 v6 v7 v8 v9 (dB k nn vv ww pc) (fB cu c0 c1 c2 c3 c4 c5 c6 c7 c8 c9) (wB c0 c1 c2 c3 c4 c5 c6 c7 c8 c9) := by
  cases u with
  | true =>
    have h := back_u n i k nn vv ww pc v0 v1 v2 v3 v4 v5 v6 v7 v8 v9 c0 c1 c2 c3 c4 c5 c6 c7 c8 c9 cu
    simp only [bne_self_eq_false, beq_self_eq_true, cond_true, cond_false, ne_not] at h
    cases ha : (bits .and .u32 (bits .and .u32 v8 v2) 8 == 0) <;> cases hb : (bits .and .u32 v1 8 == 0) <;> simp only [ha, hb, Bool.not_true, Bool.not_false, cond_true, cond_false] at h <;> exact ⟨noΦ, _, _, _, _, _, _, _, _, _, _, _, noOK, h⟩
  | false =>
    have h := back_m n i k nn vv ww pc v0 v1 v2 v3 v4 v5 v6 v7 v8 v9 c0 c1 c2 c3 c4 c5 c6 c7 c8 c9 cu
    simp only [bne_self_eq_false, beq_self_eq_true, cond_true, cond_false, ne_not] at h
    cases ha : (bits .and .u32 (bits .and .u32 v8 v2) 8 == 0) <;> cases hb : (bits .and .u32 v1 8 == 0) <;> simp only [ha, hb, Bool.not_true, Bool.not_false, cond_true, cond_false] at h <;> exact ⟨noΦ, _, _, _, _, _, _, _, _, _, _, _, noOK, h⟩
end Go.Proofs.Ytcaohimipkoapaa.Ab.CP
