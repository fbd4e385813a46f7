/- LonePlays: what a round's pieces come to, in some of the line's states (2 of 4). -/
import Derived.Test.YtecmjcfhbedelaaLonePlaysRuns1
import Derived.Test.YtecmjcfhbedelaaLonePlaysForms
namespace Go.Proofs.Ytecmjcfhbedelaa.Ab.LP
open Go Go.RowKit
set_option linter.unusedVariables false
set_option linter.unusedSimpArgs false
theorem arm1_a1_ok (n i : Nat) (line hart s0 k c0 c1 c2 c3 w0 k0 e0 e1 e2 e3 mk ml mf mt m0 m1 m2 m3 d0 d1 d2 d3 : Int) (wr h d a : Bool) : ∃ (st' : St) (y0 y1 y2 y3 : Int), runL (ctx tkΦ) (callK (ctx tkΦ) 30) 30 2 239 9 (keeps 9) (flat arm1) (midF n (Int.ofNat i) line hart s0 k) (midH line hart .a1 d0 d1 d2 d3 (dB k wr e0 e1 e2 e3 mk ml mf mt m0 m1 m2 m3 h d a) (xB line hart s0 c0 c1 c2 c3 w0 k0)) leafM = GO n i line hart s0 k st' y0 y1 y2 y3 (dB k wr e0 e1 e2 e3 mk ml mf mt m0 m1 m2 m3 h d a) (xB line hart s0 c0 c1 c2 c3 w0 k0) := by
  have h1 := arm1_a1 n i 0 line hart s0 k c0 c1 c2 c3 w0 k0 e0 e1 e2 e3 mk ml mf mt m0 m1 m2 m3 d0 d1 d2 d3 wr h d a
  cases wr <;> exact ⟨.a1, _, _, _, _, h1⟩
theorem arm2_a1_ok (n i : Nat) (line hart s0 k c0 c1 c2 c3 w0 k0 e0 e1 e2 e3 mk ml mf mt m0 m1 m2 m3 d0 d1 d2 d3 : Int) (wr h d a : Bool) : ∃ (st' : St) (y0 y1 y2 y3 : Int), runL (ctx tkΦ) (callK (ctx tkΦ) 30) 30 2 239 9 (keeps 9) (flat arm2) (midF n (Int.ofNat i) line hart s0 k) (midH line hart .a1 d0 d1 d2 d3 (dB k wr e0 e1 e2 e3 mk ml mf mt m0 m1 m2 m3 h d a) (xB line hart s0 c0 c1 c2 c3 w0 k0)) leafM = GO n i line hart s0 k st' y0 y1 y2 y3 (dB k wr e0 e1 e2 e3 mk ml mf mt m0 m1 m2 m3 h d a) (xB line hart s0 c0 c1 c2 c3 w0 k0) := by
  have h1 := arm2_a1 n i 0 line hart s0 k c0 c1 c2 c3 w0 k0 e0 e1 e2 e3 mk ml mf mt m0 m1 m2 m3 d0 d1 d2 d3 wr h d a
  exact ⟨.a1, _, _, _, _, h1⟩
theorem arm3_a1_ok (n i : Nat) (line hart s0 k c0 c1 c2 c3 w0 k0 e0 e1 e2 e3 mk ml mf mt m0 m1 m2 m3 d0 d1 d2 d3 : Int) (wr h d a : Bool) : ∃ (st' : St) (y0 y1 y2 y3 : Int), runL (ctx tkΦ) (callK (ctx tkΦ) 30) 30 2 239 9 (keeps 9) (flat arm3) (midF n (Int.ofNat i) line hart s0 k) (midH line hart .a1 d0 d1 d2 d3 (dB k wr e0 e1 e2 e3 mk ml mf mt m0 m1 m2 m3 h d a) (xB line hart s0 c0 c1 c2 c3 w0 k0)) leafM = GO n i line hart s0 k st' y0 y1 y2 y3 (dB k wr e0 e1 e2 e3 mk ml mf mt m0 m1 m2 m3 h d a) (xB line hart s0 c0 c1 c2 c3 w0 k0) := by
  have h1 := arm3_a1 n i 0 line hart s0 k c0 c1 c2 c3 w0 k0 e0 e1 e2 e3 mk ml mf mt m0 m1 m2 m3 d0 d1 d2 d3 wr h d a
  exact ⟨.a1, _, _, _, _, h1⟩
theorem back_a1_ok (n i : Nat) (line hart s0 k c0 c1 c2 c3 w0 k0 e0 e1 e2 e3 mk ml mf mt m0 m1 m2 m3 d0 d1 d2 d3 : Int) (wr h d a : Bool) : ∃ (st' : St) (y0 y1 y2 y3 : Int), runL (ctx tkΦ) (callK (ctx tkΦ) 30) 30 2 239 9 (keeps 9) back (midF n (Int.ofNat i) line hart s0 k) (midH line hart .a1 d0 d1 d2 d3 (dB k wr e0 e1 e2 e3 mk ml mf mt m0 m1 m2 m3 h d a) (xB line hart s0 c0 c1 c2 c3 w0 k0)) leafM = GO n i line hart s0 k st' y0 y1 y2 y3 (dB k wr e0 e1 e2 e3 mk ml mf mt m0 m1 m2 m3 h d a) (xB line hart s0 c0 c1 c2 c3 w0 k0) := by
  have h1 := back_a1 n i 0 line hart s0 k c0 c1 c2 c3 w0 k0 e0 e1 e2 e3 mk ml mf mt m0 m1 m2 m3 d0 d1 d2 d3 wr h d a
  simp only [bne_self_eq_false, cond_false] at h1
  exact ⟨.a1, _, _, _, _, h1⟩
theorem armD_a1_ok (n i : Nat) (line hart s0 k c0 c1 c2 c3 w0 k0 e0 e1 e2 e3 mk ml mf mt m0 m1 m2 m3 d0 d1 d2 d3 : Int) (wr h d a : Bool) : ∃ (st' : St) (y0 y1 y2 y3 : Int), runL (ctx tkΦ) (callK (ctx tkΦ) 30) 30 2 239 9 (keeps 9) (flat armD) (midF n (Int.ofNat i) line hart s0 k) (midH line hart .a1 d0 d1 d2 d3 (dB k wr e0 e1 e2 e3 mk ml mf mt m0 m1 m2 m3 h d a) (xB line hart s0 c0 c1 c2 c3 w0 k0)) leafM = GO n i line hart s0 k st' y0 y1 y2 y3 (dB k wr e0 e1 e2 e3 mk ml mf mt m0 m1 m2 m3 h d a) (xB line hart s0 c0 c1 c2 c3 w0 k0) := by
  rcases forms mk with rfl | rfl | rfl | rfl | rfl | rfl | rfl | rfl | rfl | rfl | ⟨u, rfl⟩ | ⟨u, rfl⟩
  · have h1 := armD_a1_0 n i 0 line hart s0 k c0 c1 c2 c3 w0 k0 e0 e1 e2 e3 0 ml mf mt m0 m1 m2 m3 d0 d1 d2 d3 wr h d a
    exact ⟨.a1, _, _, _, _, h1⟩
  · have h1 := armD_a1_1 n i 0 line hart s0 k c0 c1 c2 c3 w0 k0 e0 e1 e2 e3 0 ml mf mt m0 m1 m2 m3 d0 d1 d2 d3 wr h d a
    exact ⟨.a1, _, _, _, _, h1⟩
  · have h1 := armD_a1_2 n i 0 line hart s0 k c0 c1 c2 c3 w0 k0 e0 e1 e2 e3 0 ml mf mt m0 m1 m2 m3 d0 d1 d2 d3 wr h d a
    exact ⟨.a1, _, _, _, _, h1⟩
  · have h1 := armD_a1_3 n i 0 line hart s0 k c0 c1 c2 c3 w0 k0 e0 e1 e2 e3 0 ml mf mt m0 m1 m2 m3 d0 d1 d2 d3 wr h d a
    exact ⟨.a1, _, _, _, _, h1⟩
  · have h1 := armD_a1_4 n i 0 line hart s0 k c0 c1 c2 c3 w0 k0 e0 e1 e2 e3 0 ml mf mt m0 m1 m2 m3 d0 d1 d2 d3 wr h d a
    simp only [beq_self_eq_true, cond_true] at h1
    generalize T line hart 0 2 4 ml mf mt = b1 at h1
    cases b1 <;> exact ⟨.a1, _, _, _, _, h1⟩
  · have h1 := armD_a1_5 n i 0 line hart s0 k c0 c1 c2 c3 w0 k0 e0 e1 e2 e3 0 ml mf mt m0 m1 m2 m3 d0 d1 d2 d3 wr h d a
    simp only [beq_self_eq_true, cond_true] at h1
    generalize T line hart 0 2 5 ml mf mt = b1 at h1
    cases b1 <;> exact ⟨.a1, _, _, _, _, h1⟩
  · have h1 := armD_a1_6 n i 0 line hart s0 k c0 c1 c2 c3 w0 k0 e0 e1 e2 e3 0 ml mf mt m0 m1 m2 m3 d0 d1 d2 d3 wr h d a
    simp only [beq_self_eq_true, cond_true] at h1
    generalize T line hart 0 2 6 ml mf mt = b1 at h1
    cases b1 <;> exact ⟨.a1, _, _, _, _, h1⟩
  · have h1 := armD_a1_7 n i 0 line hart s0 k c0 c1 c2 c3 w0 k0 e0 e1 e2 e3 0 ml mf mt m0 m1 m2 m3 d0 d1 d2 d3 wr h d a
    simp only [beq_self_eq_true, cond_true] at h1
    generalize T line hart 0 2 7 ml mf mt = b1 at h1
    cases b1 <;> cases d <;> first | exact ⟨.a3, _, _, _, _, h1⟩ | exact ⟨.a4, _, _, _, _, h1⟩ | exact ⟨.a1, _, _, _, _, h1⟩
  · have h1 := armD_a1_8 n i 0 line hart s0 k c0 c1 c2 c3 w0 k0 e0 e1 e2 e3 0 ml mf mt m0 m1 m2 m3 d0 d1 d2 d3 wr h d a
    exact ⟨.a1, _, _, _, _, h1⟩
  · have h1 := armD_a1_9 n i 0 line hart s0 k c0 c1 c2 c3 w0 k0 e0 e1 e2 e3 0 ml mf mt m0 m1 m2 m3 d0 d1 d2 d3 wr h d a
    exact ⟨.a1, _, _, _, _, h1⟩
  · have h1 := armD_a1_big n i u line hart s0 k c0 c1 c2 c3 w0 k0 e0 e1 e2 e3 0 ml mf mt m0 m1 m2 m3 d0 d1 d2 d3 wr h d a
    exact ⟨.a1, _, _, _, _, h1⟩
  · have h1 := armD_a1_neg n i u line hart s0 k c0 c1 c2 c3 w0 k0 e0 e1 e2 e3 0 ml mf mt m0 m1 m2 m3 d0 d1 d2 d3 wr h d a
    exact ⟨.a1, _, _, _, _, h1⟩
theorem arm1_a5_ok (n i : Nat) (line hart s0 k c0 c1 c2 c3 w0 k0 e0 e1 e2 e3 mk ml mf mt m0 m1 m2 m3 d0 d1 d2 d3 : Int) (wr h d a : Bool) : ∃ (st' : St) (y0 y1 y2 y3 : Int), runL (ctx tkΦ) (callK (ctx tkΦ) 30) 30 2 239 9 (keeps 9) (flat arm1) (midF n (Int.ofNat i) line hart s0 k) (midH line hart .a5 d0 d1 d2 d3 (dB k wr e0 e1 e2 e3 mk ml mf mt m0 m1 m2 m3 h d a) (xB line hart s0 c0 c1 c2 c3 w0 k0)) leafM = GO n i line hart s0 k st' y0 y1 y2 y3 (dB k wr e0 e1 e2 e3 mk ml mf mt m0 m1 m2 m3 h d a) (xB line hart s0 c0 c1 c2 c3 w0 k0) := by
  have h1 := arm1_a5 n i 0 line hart s0 k c0 c1 c2 c3 w0 k0 e0 e1 e2 e3 mk ml mf mt m0 m1 m2 m3 d0 d1 d2 d3 wr h d a
  simp only [beq_self_eq_true, cond_true] at h1
  cases wr <;> first | exact ⟨.a9, _, _, _, _, h1⟩ | exact ⟨.a5, _, _, _, _, h1⟩
theorem arm2_a5_ok (n i : Nat) (line hart s0 k c0 c1 c2 c3 w0 k0 e0 e1 e2 e3 mk ml mf mt m0 m1 m2 m3 d0 d1 d2 d3 : Int) (wr h d a : Bool) : ∃ (st' : St) (y0 y1 y2 y3 : Int), runL (ctx tkΦ) (callK (ctx tkΦ) 30) 30 2 239 9 (keeps 9) (flat arm2) (midF n (Int.ofNat i) line hart s0 k) (midH line hart .a5 d0 d1 d2 d3 (dB k wr e0 e1 e2 e3 mk ml mf mt m0 m1 m2 m3 h d a) (xB line hart s0 c0 c1 c2 c3 w0 k0)) leafM = GO n i line hart s0 k st' y0 y1 y2 y3 (dB k wr e0 e1 e2 e3 mk ml mf mt m0 m1 m2 m3 h d a) (xB line hart s0 c0 c1 c2 c3 w0 k0) := by
  have h1 := arm2_a5 n i 0 line hart s0 k c0 c1 c2 c3 w0 k0 e0 e1 e2 e3 mk ml mf mt m0 m1 m2 m3 d0 d1 d2 d3 wr h d a
  exact ⟨.a0, _, _, _, _, h1⟩
theorem arm3_a5_ok (n i : Nat) (line hart s0 k c0 c1 c2 c3 w0 k0 e0 e1 e2 e3 mk ml mf mt m0 m1 m2 m3 d0 d1 d2 d3 : Int) (wr h d a : Bool) : ∃ (st' : St) (y0 y1 y2 y3 : Int), runL (ctx tkΦ) (callK (ctx tkΦ) 30) 30 2 239 9 (keeps 9) (flat arm3) (midF n (Int.ofNat i) line hart s0 k) (midH line hart .a5 d0 d1 d2 d3 (dB k wr e0 e1 e2 e3 mk ml mf mt m0 m1 m2 m3 h d a) (xB line hart s0 c0 c1 c2 c3 w0 k0)) leafM = GO n i line hart s0 k st' y0 y1 y2 y3 (dB k wr e0 e1 e2 e3 mk ml mf mt m0 m1 m2 m3 h d a) (xB line hart s0 c0 c1 c2 c3 w0 k0) := by
  have h1 := arm3_a5 n i 0 line hart s0 k c0 c1 c2 c3 w0 k0 e0 e1 e2 e3 mk ml mf mt m0 m1 m2 m3 d0 d1 d2 d3 wr h d a
  exact ⟨.a5, _, _, _, _, h1⟩
theorem back_a5_ok (n i : Nat) (line hart s0 k c0 c1 c2 c3 w0 k0 e0 e1 e2 e3 mk ml mf mt m0 m1 m2 m3 d0 d1 d2 d3 : Int) (wr h d a : Bool) : ∃ (st' : St) (y0 y1 y2 y3 : Int), runL (ctx tkΦ) (callK (ctx tkΦ) 30) 30 2 239 9 (keeps 9) back (midF n (Int.ofNat i) line hart s0 k) (midH line hart .a5 d0 d1 d2 d3 (dB k wr e0 e1 e2 e3 mk ml mf mt m0 m1 m2 m3 h d a) (xB line hart s0 c0 c1 c2 c3 w0 k0)) leafM = GO n i line hart s0 k st' y0 y1 y2 y3 (dB k wr e0 e1 e2 e3 mk ml mf mt m0 m1 m2 m3 h d a) (xB line hart s0 c0 c1 c2 c3 w0 k0) := by
  have h1 := back_a5 n i 0 line hart s0 k c0 c1 c2 c3 w0 k0 e0 e1 e2 e3 mk ml mf mt m0 m1 m2 m3 d0 d1 d2 d3 wr h d a
  simp only [beq_self_eq_true, cond_true, bne_self_eq_false, cond_false] at h1
  exact ⟨.a5, _, _, _, _, h1⟩
theorem armD_a5_ok (n i : Nat) (line hart s0 k c0 c1 c2 c3 w0 k0 e0 e1 e2 e3 mk ml mf mt m0 m1 m2 m3 d0 d1 d2 d3 : Int) (wr h d a : Bool) : ∃ (st' : St) (y0 y1 y2 y3 : Int), runL (ctx tkΦ) (callK (ctx tkΦ) 30) 30 2 239 9 (keeps 9) (flat armD) (midF n (Int.ofNat i) line hart s0 k) (midH line hart .a5 d0 d1 d2 d3 (dB k wr e0 e1 e2 e3 mk ml mf mt m0 m1 m2 m3 h d a) (xB line hart s0 c0 c1 c2 c3 w0 k0)) leafM = GO n i line hart s0 k st' y0 y1 y2 y3 (dB k wr e0 e1 e2 e3 mk ml mf mt m0 m1 m2 m3 h d a) (xB line hart s0 c0 c1 c2 c3 w0 k0) := by
  rcases forms mk with rfl | rfl | rfl | rfl | rfl | rfl | rfl | rfl | rfl | rfl | ⟨u, rfl⟩ | ⟨u, rfl⟩
  · have h1 := armD_a5_0 n i 0 line hart s0 k c0 c1 c2 c3 w0 k0 e0 e1 e2 e3 0 ml mf mt m0 m1 m2 m3 d0 d1 d2 d3 wr h d a
    exact ⟨.a5, _, _, _, _, h1⟩
  · have h1 := armD_a5_1 n i 0 line hart s0 k c0 c1 c2 c3 w0 k0 e0 e1 e2 e3 0 ml mf mt m0 m1 m2 m3 d0 d1 d2 d3 wr h d a
    exact ⟨.a5, _, _, _, _, h1⟩
  · have h1 := armD_a5_2 n i 0 line hart s0 k c0 c1 c2 c3 w0 k0 e0 e1 e2 e3 0 ml mf mt m0 m1 m2 m3 d0 d1 d2 d3 wr h d a
    exact ⟨.a5, _, _, _, _, h1⟩
  · have h1 := armD_a5_3 n i 0 line hart s0 k c0 c1 c2 c3 w0 k0 e0 e1 e2 e3 0 ml mf mt m0 m1 m2 m3 d0 d1 d2 d3 wr h d a
    exact ⟨.a5, _, _, _, _, h1⟩
  · have h1 := armD_a5_4 n i 0 line hart s0 k c0 c1 c2 c3 w0 k0 e0 e1 e2 e3 0 ml mf mt m0 m1 m2 m3 d0 d1 d2 d3 wr h d a
    simp only [beq_self_eq_true, cond_true] at h1
    generalize T line hart 1 0 4 ml mf mt = b1 at h1
    cases b1 <;> first | exact ⟨.a0, _, _, _, _, h1⟩ | exact ⟨.a5, _, _, _, _, h1⟩
  · have h1 := armD_a5_5 n i 0 line hart s0 k c0 c1 c2 c3 w0 k0 e0 e1 e2 e3 0 ml mf mt m0 m1 m2 m3 d0 d1 d2 d3 wr h d a
    simp only [beq_self_eq_true, cond_true] at h1
    generalize T line hart 1 0 5 ml mf mt = b1 at h1
    cases b1 <;> exact ⟨.a5, _, _, _, _, h1⟩
  · have h1 := armD_a5_6 n i 0 line hart s0 k c0 c1 c2 c3 w0 k0 e0 e1 e2 e3 0 ml mf mt m0 m1 m2 m3 d0 d1 d2 d3 wr h d a
    simp only [beq_self_eq_true, cond_true] at h1
    generalize T line hart 1 0 6 ml mf mt = b1 at h1
    cases b1 <;> first | exact ⟨.a0, _, _, _, _, h1⟩ | exact ⟨.a5, _, _, _, _, h1⟩
  · have h1 := armD_a5_7 n i 0 line hart s0 k c0 c1 c2 c3 w0 k0 e0 e1 e2 e3 0 ml mf mt m0 m1 m2 m3 d0 d1 d2 d3 wr h d a
    exact ⟨.a5, _, _, _, _, h1⟩
  · have h1 := armD_a5_8 n i 0 line hart s0 k c0 c1 c2 c3 w0 k0 e0 e1 e2 e3 0 ml mf mt m0 m1 m2 m3 d0 d1 d2 d3 wr h d a
    exact ⟨.a5, _, _, _, _, h1⟩
  · have h1 := armD_a5_9 n i 0 line hart s0 k c0 c1 c2 c3 w0 k0 e0 e1 e2 e3 0 ml mf mt m0 m1 m2 m3 d0 d1 d2 d3 wr h d a
    exact ⟨.a5, _, _, _, _, h1⟩
  · have h1 := armD_a5_big n i u line hart s0 k c0 c1 c2 c3 w0 k0 e0 e1 e2 e3 0 ml mf mt m0 m1 m2 m3 d0 d1 d2 d3 wr h d a
    exact ⟨.a5, _, _, _, _, h1⟩
  · have h1 := armD_a5_neg n i u line hart s0 k c0 c1 c2 c3 w0 k0 e0 e1 e2 e3 0 ml mf mt m0 m1 m2 m3 d0 d1 d2 d3 wr h d a
    exact ⟨.a5, _, _, _, _, h1⟩
theorem arm1_a9_ok (n i : Nat) (line hart s0 k c0 c1 c2 c3 w0 k0 e0 e1 e2 e3 mk ml mf mt m0 m1 m2 m3 d0 d1 d2 d3 : Int) (wr h d a : Bool) : ∃ (st' : St) (y0 y1 y2 y3 : Int), runL (ctx tkΦ) (callK (ctx tkΦ) 30) 30 2 239 9 (keeps 9) (flat arm1) (midF n (Int.ofNat i) line hart s0 k) (midH line hart .a9 d0 d1 d2 d3 (dB k wr e0 e1 e2 e3 mk ml mf mt m0 m1 m2 m3 h d a) (xB line hart s0 c0 c1 c2 c3 w0 k0)) leafM = GO n i line hart s0 k st' y0 y1 y2 y3 (dB k wr e0 e1 e2 e3 mk ml mf mt m0 m1 m2 m3 h d a) (xB line hart s0 c0 c1 c2 c3 w0 k0) := by
  have h1 := arm1_a9 n i 0 line hart s0 k c0 c1 c2 c3 w0 k0 e0 e1 e2 e3 mk ml mf mt m0 m1 m2 m3 d0 d1 d2 d3 wr h d a
  cases wr <;> exact ⟨.a9, _, _, _, _, h1⟩
theorem arm2_a9_ok (n i : Nat) (line hart s0 k c0 c1 c2 c3 w0 k0 e0 e1 e2 e3 mk ml mf mt m0 m1 m2 m3 d0 d1 d2 d3 : Int) (wr h d a : Bool) : ∃ (st' : St) (y0 y1 y2 y3 : Int), runL (ctx tkΦ) (callK (ctx tkΦ) 30) 30 2 239 9 (keeps 9) (flat arm2) (midF n (Int.ofNat i) line hart s0 k) (midH line hart .a9 d0 d1 d2 d3 (dB k wr e0 e1 e2 e3 mk ml mf mt m0 m1 m2 m3 h d a) (xB line hart s0 c0 c1 c2 c3 w0 k0)) leafM = GO n i line hart s0 k st' y0 y1 y2 y3 (dB k wr e0 e1 e2 e3 mk ml mf mt m0 m1 m2 m3 h d a) (xB line hart s0 c0 c1 c2 c3 w0 k0) := by
  have h1 := arm2_a9 n i 0 line hart s0 k c0 c1 c2 c3 w0 k0 e0 e1 e2 e3 mk ml mf mt m0 m1 m2 m3 d0 d1 d2 d3 wr h d a
  exact ⟨.a9, _, _, _, _, h1⟩
theorem arm3_a9_ok (n i : Nat) (line hart s0 k c0 c1 c2 c3 w0 k0 e0 e1 e2 e3 mk ml mf mt m0 m1 m2 m3 d0 d1 d2 d3 : Int) (wr h d a : Bool) : ∃ (st' : St) (y0 y1 y2 y3 : Int), runL (ctx tkΦ) (callK (ctx tkΦ) 30) 30 2 239 9 (keeps 9) (flat arm3) (midF n (Int.ofNat i) line hart s0 k) (midH line hart .a9 d0 d1 d2 d3 (dB k wr e0 e1 e2 e3 mk ml mf mt m0 m1 m2 m3 h d a) (xB line hart s0 c0 c1 c2 c3 w0 k0)) leafM = GO n i line hart s0 k st' y0 y1 y2 y3 (dB k wr e0 e1 e2 e3 mk ml mf mt m0 m1 m2 m3 h d a) (xB line hart s0 c0 c1 c2 c3 w0 k0) := by
  have h1 := arm3_a9 n i 0 line hart s0 k c0 c1 c2 c3 w0 k0 e0 e1 e2 e3 mk ml mf mt m0 m1 m2 m3 d0 d1 d2 d3 wr h d a
  exact ⟨.a9, _, _, _, _, h1⟩
theorem back_a9_ok (n i : Nat) (line hart s0 k c0 c1 c2 c3 w0 k0 e0 e1 e2 e3 mk ml mf mt m0 m1 m2 m3 d0 d1 d2 d3 : Int) (wr h d a : Bool) : ∃ (st' : St) (y0 y1 y2 y3 : Int), runL (ctx tkΦ) (callK (ctx tkΦ) 30) 30 2 239 9 (keeps 9) back (midF n (Int.ofNat i) line hart s0 k) (midH line hart .a9 d0 d1 d2 d3 (dB k wr e0 e1 e2 e3 mk ml mf mt m0 m1 m2 m3 h d a) (xB line hart s0 c0 c1 c2 c3 w0 k0)) leafM = GO n i line hart s0 k st' y0 y1 y2 y3 (dB k wr e0 e1 e2 e3 mk ml mf mt m0 m1 m2 m3 h d a) (xB line hart s0 c0 c1 c2 c3 w0 k0) := by
  have h1 := back_a9 n i 0 line hart s0 k c0 c1 c2 c3 w0 k0 e0 e1 e2 e3 mk ml mf mt m0 m1 m2 m3 d0 d1 d2 d3 wr h d a
  simp only [beq_self_eq_true, cond_true, bne_self_eq_false, cond_false] at h1
  exact ⟨.a9, _, _, _, _, h1⟩
theorem armD_a9_ok (n i : Nat) (line hart s0 k c0 c1 c2 c3 w0 k0 e0 e1 e2 e3 mk ml mf mt m0 m1 m2 m3 d0 d1 d2 d3 : Int) (wr h d a : Bool) : ∃ (st' : St) (y0 y1 y2 y3 : Int), runL (ctx tkΦ) (callK (ctx tkΦ) 30) 30 2 239 9 (keeps 9) (flat armD) (midF n (Int.ofNat i) line hart s0 k) (midH line hart .a9 d0 d1 d2 d3 (dB k wr e0 e1 e2 e3 mk ml mf mt m0 m1 m2 m3 h d a) (xB line hart s0 c0 c1 c2 c3 w0 k0)) leafM = GO n i line hart s0 k st' y0 y1 y2 y3 (dB k wr e0 e1 e2 e3 mk ml mf mt m0 m1 m2 m3 h d a) (xB line hart s0 c0 c1 c2 c3 w0 k0) := by
  rcases forms mk with rfl | rfl | rfl | rfl | rfl | rfl | rfl | rfl | rfl | rfl | ⟨u, rfl⟩ | ⟨u, rfl⟩
  · have h1 := armD_a9_0 n i 0 line hart s0 k c0 c1 c2 c3 w0 k0 e0 e1 e2 e3 0 ml mf mt m0 m1 m2 m3 d0 d1 d2 d3 wr h d a
    exact ⟨.a9, _, _, _, _, h1⟩
  · have h1 := armD_a9_1 n i 0 line hart s0 k c0 c1 c2 c3 w0 k0 e0 e1 e2 e3 0 ml mf mt m0 m1 m2 m3 d0 d1 d2 d3 wr h d a
    exact ⟨.a9, _, _, _, _, h1⟩
  · have h1 := armD_a9_2 n i 0 line hart s0 k c0 c1 c2 c3 w0 k0 e0 e1 e2 e3 0 ml mf mt m0 m1 m2 m3 d0 d1 d2 d3 wr h d a
    exact ⟨.a9, _, _, _, _, h1⟩
  · have h1 := armD_a9_3 n i 0 line hart s0 k c0 c1 c2 c3 w0 k0 e0 e1 e2 e3 0 ml mf mt m0 m1 m2 m3 d0 d1 d2 d3 wr h d a
    exact ⟨.a9, _, _, _, _, h1⟩
  · have h1 := armD_a9_4 n i 0 line hart s0 k c0 c1 c2 c3 w0 k0 e0 e1 e2 e3 0 ml mf mt m0 m1 m2 m3 d0 d1 d2 d3 wr h d a
    simp only [beq_self_eq_true, cond_true] at h1
    generalize T line hart 1 2 4 ml mf mt = b1 at h1
    cases b1 <;> first | exact ⟨.a1, _, _, _, _, h1⟩ | exact ⟨.a9, _, _, _, _, h1⟩
  · have h1 := armD_a9_5 n i 0 line hart s0 k c0 c1 c2 c3 w0 k0 e0 e1 e2 e3 0 ml mf mt m0 m1 m2 m3 d0 d1 d2 d3 wr h d a
    simp only [beq_self_eq_true, cond_true] at h1
    generalize T line hart 1 2 5 ml mf mt = b1 at h1
    cases b1 <;> exact ⟨.a9, _, _, _, _, h1⟩
  · have h1 := armD_a9_6 n i 0 line hart s0 k c0 c1 c2 c3 w0 k0 e0 e1 e2 e3 0 ml mf mt m0 m1 m2 m3 d0 d1 d2 d3 wr h d a
    simp only [beq_self_eq_true, cond_true] at h1
    generalize T line hart 1 2 6 ml mf mt = b1 at h1
    cases b1 <;> first | exact ⟨.a1, _, _, _, _, h1⟩ | exact ⟨.a9, _, _, _, _, h1⟩
  · have h1 := armD_a9_7 n i 0 line hart s0 k c0 c1 c2 c3 w0 k0 e0 e1 e2 e3 0 ml mf mt m0 m1 m2 m3 d0 d1 d2 d3 wr h d a
    simp only [beq_self_eq_true, cond_true] at h1
    generalize T line hart 1 2 7 ml mf mt = b1 at h1
    cases b1 <;> cases d <;> first | exact ⟨.a3, _, _, _, _, h1⟩ | exact ⟨.a4, _, _, _, _, h1⟩ | exact ⟨.a9, _, _, _, _, h1⟩
  · have h1 := armD_a9_8 n i 0 line hart s0 k c0 c1 c2 c3 w0 k0 e0 e1 e2 e3 0 ml mf mt m0 m1 m2 m3 d0 d1 d2 d3 wr h d a
    simp only [beq_self_eq_true, cond_true] at h1
    generalize T line hart 1 2 8 ml mf mt = b1 at h1
    cases b1 <;> first | exact ⟨.a3, _, _, _, _, h1⟩ | exact ⟨.a9, _, _, _, _, h1⟩
  · have h1 := armD_a9_9 n i 0 line hart s0 k c0 c1 c2 c3 w0 k0 e0 e1 e2 e3 0 ml mf mt m0 m1 m2 m3 d0 d1 d2 d3 wr h d a
    exact ⟨.a9, _, _, _, _, h1⟩
  · have h1 := armD_a9_big n i u line hart s0 k c0 c1 c2 c3 w0 k0 e0 e1 e2 e3 0 ml mf mt m0 m1 m2 m3 d0 d1 d2 d3 wr h d a
    exact ⟨.a9, _, _, _, _, h1⟩
  · have h1 := armD_a9_neg n i u line hart s0 k c0 c1 c2 c3 w0 k0 e0 e1 e2 e3 0 ml mf mt m0 m1 m2 m3 d0 d1 d2 d3 wr h d a
    exact ⟨.a9, _, _, _, _, h1⟩
theorem arm1_a13_ok (n i : Nat) (line hart s0 k c0 c1 c2 c3 w0 k0 e0 e1 e2 e3 mk ml mf mt m0 m1 m2 m3 d0 d1 d2 d3 : Int) (wr h d a : Bool) : ∃ (st' : St) (y0 y1 y2 y3 : Int), runL (ctx tkΦ) (callK (ctx tkΦ) 30) 30 2 239 9 (keeps 9) (flat arm1) (midF n (Int.ofNat i) line hart s0 k) (midH line hart .a13 d0 d1 d2 d3 (dB k wr e0 e1 e2 e3 mk ml mf mt m0 m1 m2 m3 h d a) (xB line hart s0 c0 c1 c2 c3 w0 k0)) leafM = GO n i line hart s0 k st' y0 y1 y2 y3 (dB k wr e0 e1 e2 e3 mk ml mf mt m0 m1 m2 m3 h d a) (xB line hart s0 c0 c1 c2 c3 w0 k0) := by
  have h1 := arm1_a13 n i 0 line hart s0 k c0 c1 c2 c3 w0 k0 e0 e1 e2 e3 mk ml mf mt m0 m1 m2 m3 d0 d1 d2 d3 wr h d a
  cases wr <;> exact ⟨.a13, _, _, _, _, h1⟩
theorem arm2_a13_ok (n i : Nat) (line hart s0 k c0 c1 c2 c3 w0 k0 e0 e1 e2 e3 mk ml mf mt m0 m1 m2 m3 d0 d1 d2 d3 : Int) (wr h d a : Bool) : ∃ (st' : St) (y0 y1 y2 y3 : Int), runL (ctx tkΦ) (callK (ctx tkΦ) 30) 30 2 239 9 (keeps 9) (flat arm2) (midF n (Int.ofNat i) line hart s0 k) (midH line hart .a13 d0 d1 d2 d3 (dB k wr e0 e1 e2 e3 mk ml mf mt m0 m1 m2 m3 h d a) (xB line hart s0 c0 c1 c2 c3 w0 k0)) leafM = GO n i line hart s0 k st' y0 y1 y2 y3 (dB k wr e0 e1 e2 e3 mk ml mf mt m0 m1 m2 m3 h d a) (xB line hart s0 c0 c1 c2 c3 w0 k0) := by
  have h1 := arm2_a13 n i 0 line hart s0 k c0 c1 c2 c3 w0 k0 e0 e1 e2 e3 mk ml mf mt m0 m1 m2 m3 d0 d1 d2 d3 wr h d a
  exact ⟨.a13, _, _, _, _, h1⟩
theorem arm3_a13_ok (n i : Nat) (line hart s0 k c0 c1 c2 c3 w0 k0 e0 e1 e2 e3 mk ml mf mt m0 m1 m2 m3 d0 d1 d2 d3 : Int) (wr h d a : Bool) : ∃ (st' : St) (y0 y1 y2 y3 : Int), runL (ctx tkΦ) (callK (ctx tkΦ) 30) 30 2 239 9 (keeps 9) (flat arm3) (midF n (Int.ofNat i) line hart s0 k) (midH line hart .a13 d0 d1 d2 d3 (dB k wr e0 e1 e2 e3 mk ml mf mt m0 m1 m2 m3 h d a) (xB line hart s0 c0 c1 c2 c3 w0 k0)) leafM = GO n i line hart s0 k st' y0 y1 y2 y3 (dB k wr e0 e1 e2 e3 mk ml mf mt m0 m1 m2 m3 h d a) (xB line hart s0 c0 c1 c2 c3 w0 k0) := by
  have h1 := arm3_a13 n i 0 line hart s0 k c0 c1 c2 c3 w0 k0 e0 e1 e2 e3 mk ml mf mt m0 m1 m2 m3 d0 d1 d2 d3 wr h d a
  exact ⟨.a13, _, _, _, _, h1⟩
theorem back_a13_ok (n i : Nat) (line hart s0 k c0 c1 c2 c3 w0 k0 e0 e1 e2 e3 mk ml mf mt m0 m1 m2 m3 d0 d1 d2 d3 : Int) (wr h d a : Bool) : ∃ (st' : St) (y0 y1 y2 y3 : Int), runL (ctx tkΦ) (callK (ctx tkΦ) 30) 30 2 239 9 (keeps 9) back (midF n (Int.ofNat i) line hart s0 k) (midH line hart .a13 d0 d1 d2 d3 (dB k wr e0 e1 e2 e3 mk ml mf mt m0 m1 m2 m3 h d a) (xB line hart s0 c0 c1 c2 c3 w0 k0)) leafM = GO n i line hart s0 k st' y0 y1 y2 y3 (dB k wr e0 e1 e2 e3 mk ml mf mt m0 m1 m2 m3 h d a) (xB line hart s0 c0 c1 c2 c3 w0 k0) := by
  have h1 := back_a13 n i 0 line hart s0 k c0 c1 c2 c3 w0 k0 e0 e1 e2 e3 mk ml mf mt m0 m1 m2 m3 d0 d1 d2 d3 wr h d a
  simp only [bne_self_eq_false, cond_false] at h1
  exact ⟨.a13, _, _, _, _, h1⟩
theorem armD_a13_ok (n i : Nat) (line hart s0 k c0 c1 c2 c3 w0 k0 e0 e1 e2 e3 mk ml mf mt m0 m1 m2 m3 d0 d1 d2 d3 : Int) (wr h d a : Bool) : ∃ (st' : St) (y0 y1 y2 y3 : Int), runL (ctx tkΦ) (callK (ctx tkΦ) 30) 30 2 239 9 (keeps 9) (flat armD) (midF n (Int.ofNat i) line hart s0 k) (midH line hart .a13 d0 d1 d2 d3 (dB k wr e0 e1 e2 e3 mk ml mf mt m0 m1 m2 m3 h d a) (xB line hart s0 c0 c1 c2 c3 w0 k0)) leafM = GO n i line hart s0 k st' y0 y1 y2 y3 (dB k wr e0 e1 e2 e3 mk ml mf mt m0 m1 m2 m3 h d a) (xB line hart s0 c0 c1 c2 c3 w0 k0) := by
  rcases forms mk with rfl | rfl | rfl | rfl | rfl | rfl | rfl | rfl | rfl | rfl | ⟨u, rfl⟩ | ⟨u, rfl⟩
  · have h1 := armD_a13_0 n i 0 line hart s0 k c0 c1 c2 c3 w0 k0 e0 e1 e2 e3 0 ml mf mt m0 m1 m2 m3 d0 d1 d2 d3 wr h d a
    exact ⟨.a13, _, _, _, _, h1⟩
  · have h1 := armD_a13_1 n i 0 line hart s0 k c0 c1 c2 c3 w0 k0 e0 e1 e2 e3 0 ml mf mt m0 m1 m2 m3 d0 d1 d2 d3 wr h d a
    exact ⟨.a13, _, _, _, _, h1⟩
  · have h1 := armD_a13_2 n i 0 line hart s0 k c0 c1 c2 c3 w0 k0 e0 e1 e2 e3 0 ml mf mt m0 m1 m2 m3 d0 d1 d2 d3 wr h d a
    exact ⟨.a13, _, _, _, _, h1⟩
  · have h1 := armD_a13_3 n i 0 line hart s0 k c0 c1 c2 c3 w0 k0 e0 e1 e2 e3 0 ml mf mt m0 m1 m2 m3 d0 d1 d2 d3 wr h d a
    exact ⟨.a13, _, _, _, _, h1⟩
  · have h1 := armD_a13_4 n i 0 line hart s0 k c0 c1 c2 c3 w0 k0 e0 e1 e2 e3 0 ml mf mt m0 m1 m2 m3 d0 d1 d2 d3 wr h d a
    simp only [beq_self_eq_true, cond_true] at h1
    generalize T line hart 0 3 4 ml mf mt = b1 at h1
    cases b1 <;> exact ⟨.a13, _, _, _, _, h1⟩
  · have h1 := armD_a13_5 n i 0 line hart s0 k c0 c1 c2 c3 w0 k0 e0 e1 e2 e3 0 ml mf mt m0 m1 m2 m3 d0 d1 d2 d3 wr h d a
    simp only [beq_self_eq_true, cond_true] at h1
    generalize T line hart 0 3 5 ml mf mt = b1 at h1
    cases b1 <;> exact ⟨.a13, _, _, _, _, h1⟩
  · have h1 := armD_a13_6 n i 0 line hart s0 k c0 c1 c2 c3 w0 k0 e0 e1 e2 e3 0 ml mf mt m0 m1 m2 m3 d0 d1 d2 d3 wr h d a
    simp only [beq_self_eq_true, cond_true] at h1
    generalize T line hart 0 3 6 ml mf mt = b1 at h1
    cases b1 <;> first | exact ⟨.a11, _, _, _, _, h1⟩ | exact ⟨.a13, _, _, _, _, h1⟩
  · have h1 := armD_a13_7 n i 0 line hart s0 k c0 c1 c2 c3 w0 k0 e0 e1 e2 e3 0 ml mf mt m0 m1 m2 m3 d0 d1 d2 d3 wr h d a
    exact ⟨.a13, _, _, _, _, h1⟩
  · have h1 := armD_a13_8 n i 0 line hart s0 k c0 c1 c2 c3 w0 k0 e0 e1 e2 e3 0 ml mf mt m0 m1 m2 m3 d0 d1 d2 d3 wr h d a
    exact ⟨.a13, _, _, _, _, h1⟩
  · have h1 := armD_a13_9 n i 0 line hart s0 k c0 c1 c2 c3 w0 k0 e0 e1 e2 e3 0 ml mf mt m0 m1 m2 m3 d0 d1 d2 d3 wr h d a
    generalize T line hart 0 3 9 ml mf mt = b1 at h1
    cases b1 <;> first | exact ⟨.a0, _, _, _, _, h1⟩ | exact ⟨.a13, _, _, _, _, h1⟩
  · have h1 := armD_a13_big n i u line hart s0 k c0 c1 c2 c3 w0 k0 e0 e1 e2 e3 0 ml mf mt m0 m1 m2 m3 d0 d1 d2 d3 wr h d a
    exact ⟨.a13, _, _, _, _, h1⟩
  · have h1 := armD_a13_neg n i u line hart s0 k c0 c1 c2 c3 w0 k0 e0 e1 e2 e3 0 ml mf mt m0 m1 m2 m3 d0 d1 d2 d3 wr h d a
    exact ⟨.a13, _, _, _, _, h1⟩
end Go.Proofs.Ytecmjcfhbedelaa.Ab.LP
