/- LonePlays: what a round's pieces come to, in some of the line's states (4 of 4). -/
import Derived.Test.YtecmjcfhbedelaaLonePlaysRuns3
import Derived.Test.YtecmjcfhbedelaaLonePlaysForms
namespace Go.Proofs.Ytecmjcfhbedelaa.Ab.LP
open Go Go.RowKit
set_option linter.unusedVariables false
set_option linter.unusedSimpArgs false
theorem arm1_a3_ok (n i : Nat) (line hart s0 k c0 c1 c2 c3 w0 k0 e0 e1 e2 e3 mk ml mf mt m0 m1 m2 m3 d0 d1 d2 d3 : Int) (wr h d a : Bool) : ∃ (st' : St) (y0 y1 y2 y3 : Int), runL (ctx tkΦ) (callK (ctx tkΦ) 30) 30 2 239 9 (keeps 9) (flat arm1) (midF n (Int.ofNat i) line hart s0 k) (midH line hart .a3 d0 d1 d2 d3 (dB k wr e0 e1 e2 e3 mk ml mf mt m0 m1 m2 m3 h d a) (xB line hart s0 c0 c1 c2 c3 w0 k0)) leafM = GO n i line hart s0 k st' y0 y1 y2 y3 (dB k wr e0 e1 e2 e3 mk ml mf mt m0 m1 m2 m3 h d a) (xB line hart s0 c0 c1 c2 c3 w0 k0) := by
  have h1 := arm1_a3 n i 0 line hart s0 k c0 c1 c2 c3 w0 k0 e0 e1 e2 e3 mk ml mf mt m0 m1 m2 m3 d0 d1 d2 d3 wr h d a
  cases wr <;> exact ⟨.a3, _, _, _, _, h1⟩
theorem arm2_a3_ok (n i : Nat) (line hart s0 k c0 c1 c2 c3 w0 k0 e0 e1 e2 e3 mk ml mf mt m0 m1 m2 m3 d0 d1 d2 d3 : Int) (wr h d a : Bool) : ∃ (st' : St) (y0 y1 y2 y3 : Int), runL (ctx tkΦ) (callK (ctx tkΦ) 30) 30 2 239 9 (keeps 9) (flat arm2) (midF n (Int.ofNat i) line hart s0 k) (midH line hart .a3 d0 d1 d2 d3 (dB k wr e0 e1 e2 e3 mk ml mf mt m0 m1 m2 m3 h d a) (xB line hart s0 c0 c1 c2 c3 w0 k0)) leafM = GO n i line hart s0 k st' y0 y1 y2 y3 (dB k wr e0 e1 e2 e3 mk ml mf mt m0 m1 m2 m3 h d a) (xB line hart s0 c0 c1 c2 c3 w0 k0) := by
  have h1 := arm2_a3 n i 0 line hart s0 k c0 c1 c2 c3 w0 k0 e0 e1 e2 e3 mk ml mf mt m0 m1 m2 m3 d0 d1 d2 d3 wr h d a
  simp only [beq_self_eq_true, cond_true] at h1
  exact ⟨.a6, _, _, _, _, h1⟩
theorem arm3_a3_ok (n i : Nat) (line hart s0 k c0 c1 c2 c3 w0 k0 e0 e1 e2 e3 mk ml mf mt m0 m1 m2 m3 d0 d1 d2 d3 : Int) (wr h d a : Bool) : ∃ (st' : St) (y0 y1 y2 y3 : Int), runL (ctx tkΦ) (callK (ctx tkΦ) 30) 30 2 239 9 (keeps 9) (flat arm3) (midF n (Int.ofNat i) line hart s0 k) (midH line hart .a3 d0 d1 d2 d3 (dB k wr e0 e1 e2 e3 mk ml mf mt m0 m1 m2 m3 h d a) (xB line hart s0 c0 c1 c2 c3 w0 k0)) leafM = GO n i line hart s0 k st' y0 y1 y2 y3 (dB k wr e0 e1 e2 e3 mk ml mf mt m0 m1 m2 m3 h d a) (xB line hart s0 c0 c1 c2 c3 w0 k0) := by
  have h1 := arm3_a3 n i 0 line hart s0 k c0 c1 c2 c3 w0 k0 e0 e1 e2 e3 mk ml mf mt m0 m1 m2 m3 d0 d1 d2 d3 wr h d a
  exact ⟨.a3, _, _, _, _, h1⟩
theorem back_a3_ok (n i : Nat) (line hart s0 k c0 c1 c2 c3 w0 k0 e0 e1 e2 e3 mk ml mf mt m0 m1 m2 m3 d0 d1 d2 d3 : Int) (wr h d a : Bool) : ∃ (st' : St) (y0 y1 y2 y3 : Int), runL (ctx tkΦ) (callK (ctx tkΦ) 30) 30 2 239 9 (keeps 9) back (midF n (Int.ofNat i) line hart s0 k) (midH line hart .a3 d0 d1 d2 d3 (dB k wr e0 e1 e2 e3 mk ml mf mt m0 m1 m2 m3 h d a) (xB line hart s0 c0 c1 c2 c3 w0 k0)) leafM = GO n i line hart s0 k st' y0 y1 y2 y3 (dB k wr e0 e1 e2 e3 mk ml mf mt m0 m1 m2 m3 h d a) (xB line hart s0 c0 c1 c2 c3 w0 k0) := by
  have h1 := back_a3 n i 0 line hart s0 k c0 c1 c2 c3 w0 k0 e0 e1 e2 e3 mk ml mf mt m0 m1 m2 m3 d0 d1 d2 d3 wr h d a
  simp only [beq_self_eq_true, cond_true, bne_self_eq_false, cond_false] at h1
  exact ⟨.a3, _, _, _, _, h1⟩
theorem armD_a3_ok (n i : Nat) (line hart s0 k c0 c1 c2 c3 w0 k0 e0 e1 e2 e3 mk ml mf mt m0 m1 m2 m3 d0 d1 d2 d3 : Int) (wr h d a : Bool) : ∃ (st' : St) (y0 y1 y2 y3 : Int), runL (ctx tkΦ) (callK (ctx tkΦ) 30) 30 2 239 9 (keeps 9) (flat armD) (midF n (Int.ofNat i) line hart s0 k) (midH line hart .a3 d0 d1 d2 d3 (dB k wr e0 e1 e2 e3 mk ml mf mt m0 m1 m2 m3 h d a) (xB line hart s0 c0 c1 c2 c3 w0 k0)) leafM = GO n i line hart s0 k st' y0 y1 y2 y3 (dB k wr e0 e1 e2 e3 mk ml mf mt m0 m1 m2 m3 h d a) (xB line hart s0 c0 c1 c2 c3 w0 k0) := by
  rcases forms mk with rfl | rfl | rfl | rfl | rfl | rfl | rfl | rfl | rfl | rfl | ⟨u, rfl⟩ | ⟨u, rfl⟩
  · have h1 := armD_a3_0 n i 0 line hart s0 k c0 c1 c2 c3 w0 k0 e0 e1 e2 e3 0 ml mf mt m0 m1 m2 m3 d0 d1 d2 d3 wr h d a
    exact ⟨.a3, _, _, _, _, h1⟩
  · have h1 := armD_a3_1 n i 0 line hart s0 k c0 c1 c2 c3 w0 k0 e0 e1 e2 e3 0 ml mf mt m0 m1 m2 m3 d0 d1 d2 d3 wr h d a
    exact ⟨.a3, _, _, _, _, h1⟩
  · have h1 := armD_a3_2 n i 0 line hart s0 k c0 c1 c2 c3 w0 k0 e0 e1 e2 e3 0 ml mf mt m0 m1 m2 m3 d0 d1 d2 d3 wr h d a
    exact ⟨.a3, _, _, _, _, h1⟩
  · have h1 := armD_a3_3 n i 0 line hart s0 k c0 c1 c2 c3 w0 k0 e0 e1 e2 e3 0 ml mf mt m0 m1 m2 m3 d0 d1 d2 d3 wr h d a
    exact ⟨.a3, _, _, _, _, h1⟩
  · have h1 := armD_a3_4 n i 0 line hart s0 k c0 c1 c2 c3 w0 k0 e0 e1 e2 e3 0 ml mf mt m0 m1 m2 m3 d0 d1 d2 d3 wr h d a
    simp only [beq_self_eq_true, cond_true] at h1
    generalize T line hart 4 0 4 ml mf mt = b1 at h1
    cases b1 <;> first | exact ⟨.a0, _, _, _, _, h1⟩ | exact ⟨.a3, _, _, _, _, h1⟩
  · have h1 := armD_a3_5 n i 0 line hart s0 k c0 c1 c2 c3 w0 k0 e0 e1 e2 e3 0 ml mf mt m0 m1 m2 m3 d0 d1 d2 d3 wr h d a
    simp only [beq_self_eq_true, cond_true] at h1
    generalize T line hart 4 0 5 ml mf mt = b1 at h1
    cases b1 <;> first | exact ⟨.a7, _, _, _, _, h1⟩ | exact ⟨.a3, _, _, _, _, h1⟩
  · have h1 := armD_a3_6 n i 0 line hart s0 k c0 c1 c2 c3 w0 k0 e0 e1 e2 e3 0 ml mf mt m0 m1 m2 m3 d0 d1 d2 d3 wr h d a
    simp only [beq_self_eq_true, cond_true] at h1
    generalize T line hart 4 0 6 ml mf mt = b1 at h1
    cases b1 <;> first | exact ⟨.a0, _, _, _, _, h1⟩ | exact ⟨.a3, _, _, _, _, h1⟩
  · have h1 := armD_a3_7 n i 0 line hart s0 k c0 c1 c2 c3 w0 k0 e0 e1 e2 e3 0 ml mf mt m0 m1 m2 m3 d0 d1 d2 d3 wr h d a
    exact ⟨.a3, _, _, _, _, h1⟩
  · have h1 := armD_a3_8 n i 0 line hart s0 k c0 c1 c2 c3 w0 k0 e0 e1 e2 e3 0 ml mf mt m0 m1 m2 m3 d0 d1 d2 d3 wr h d a
    exact ⟨.a3, _, _, _, _, h1⟩
  · have h1 := armD_a3_9 n i 0 line hart s0 k c0 c1 c2 c3 w0 k0 e0 e1 e2 e3 0 ml mf mt m0 m1 m2 m3 d0 d1 d2 d3 wr h d a
    exact ⟨.a3, _, _, _, _, h1⟩
  · have h1 := armD_a3_big n i u line hart s0 k c0 c1 c2 c3 w0 k0 e0 e1 e2 e3 0 ml mf mt m0 m1 m2 m3 d0 d1 d2 d3 wr h d a
    exact ⟨.a3, _, _, _, _, h1⟩
  · have h1 := armD_a3_neg n i u line hart s0 k c0 c1 c2 c3 w0 k0 e0 e1 e2 e3 0 ml mf mt m0 m1 m2 m3 d0 d1 d2 d3 wr h d a
    exact ⟨.a3, _, _, _, _, h1⟩
theorem arm1_a7_ok (n i : Nat) (line hart s0 k c0 c1 c2 c3 w0 k0 e0 e1 e2 e3 mk ml mf mt m0 m1 m2 m3 d0 d1 d2 d3 : Int) (wr h d a : Bool) : ∃ (st' : St) (y0 y1 y2 y3 : Int), runL (ctx tkΦ) (callK (ctx tkΦ) 30) 30 2 239 9 (keeps 9) (flat arm1) (midF n (Int.ofNat i) line hart s0 k) (midH line hart .a7 d0 d1 d2 d3 (dB k wr e0 e1 e2 e3 mk ml mf mt m0 m1 m2 m3 h d a) (xB line hart s0 c0 c1 c2 c3 w0 k0)) leafM = GO n i line hart s0 k st' y0 y1 y2 y3 (dB k wr e0 e1 e2 e3 mk ml mf mt m0 m1 m2 m3 h d a) (xB line hart s0 c0 c1 c2 c3 w0 k0) := by
  have h1 := arm1_a7 n i 0 line hart s0 k c0 c1 c2 c3 w0 k0 e0 e1 e2 e3 mk ml mf mt m0 m1 m2 m3 d0 d1 d2 d3 wr h d a
  simp only [beq_self_eq_true, cond_true] at h1
  cases wr <;> first | exact ⟨.a12, _, _, _, _, h1⟩ | exact ⟨.a7, _, _, _, _, h1⟩
theorem arm2_a7_ok (n i : Nat) (line hart s0 k c0 c1 c2 c3 w0 k0 e0 e1 e2 e3 mk ml mf mt m0 m1 m2 m3 d0 d1 d2 d3 : Int) (wr h d a : Bool) : ∃ (st' : St) (y0 y1 y2 y3 : Int), runL (ctx tkΦ) (callK (ctx tkΦ) 30) 30 2 239 9 (keeps 9) (flat arm2) (midF n (Int.ofNat i) line hart s0 k) (midH line hart .a7 d0 d1 d2 d3 (dB k wr e0 e1 e2 e3 mk ml mf mt m0 m1 m2 m3 h d a) (xB line hart s0 c0 c1 c2 c3 w0 k0)) leafM = GO n i line hart s0 k st' y0 y1 y2 y3 (dB k wr e0 e1 e2 e3 mk ml mf mt m0 m1 m2 m3 h d a) (xB line hart s0 c0 c1 c2 c3 w0 k0) := by
  have h1 := arm2_a7 n i 0 line hart s0 k c0 c1 c2 c3 w0 k0 e0 e1 e2 e3 mk ml mf mt m0 m1 m2 m3 d0 d1 d2 d3 wr h d a
  simp only [beq_self_eq_true, cond_true] at h1
  exact ⟨.a10, _, _, _, _, h1⟩
theorem arm3_a7_ok (n i : Nat) (line hart s0 k c0 c1 c2 c3 w0 k0 e0 e1 e2 e3 mk ml mf mt m0 m1 m2 m3 d0 d1 d2 d3 : Int) (wr h d a : Bool) : ∃ (st' : St) (y0 y1 y2 y3 : Int), runL (ctx tkΦ) (callK (ctx tkΦ) 30) 30 2 239 9 (keeps 9) (flat arm3) (midF n (Int.ofNat i) line hart s0 k) (midH line hart .a7 d0 d1 d2 d3 (dB k wr e0 e1 e2 e3 mk ml mf mt m0 m1 m2 m3 h d a) (xB line hart s0 c0 c1 c2 c3 w0 k0)) leafM = GO n i line hart s0 k st' y0 y1 y2 y3 (dB k wr e0 e1 e2 e3 mk ml mf mt m0 m1 m2 m3 h d a) (xB line hart s0 c0 c1 c2 c3 w0 k0) := by
  have h1 := arm3_a7 n i 0 line hart s0 k c0 c1 c2 c3 w0 k0 e0 e1 e2 e3 mk ml mf mt m0 m1 m2 m3 d0 d1 d2 d3 wr h d a
  exact ⟨.a7, _, _, _, _, h1⟩
theorem back_a7_ok (n i : Nat) (line hart s0 k c0 c1 c2 c3 w0 k0 e0 e1 e2 e3 mk ml mf mt m0 m1 m2 m3 d0 d1 d2 d3 : Int) (wr h d a : Bool) : ∃ (st' : St) (y0 y1 y2 y3 : Int), runL (ctx tkΦ) (callK (ctx tkΦ) 30) 30 2 239 9 (keeps 9) back (midF n (Int.ofNat i) line hart s0 k) (midH line hart .a7 d0 d1 d2 d3 (dB k wr e0 e1 e2 e3 mk ml mf mt m0 m1 m2 m3 h d a) (xB line hart s0 c0 c1 c2 c3 w0 k0)) leafM = GO n i line hart s0 k st' y0 y1 y2 y3 (dB k wr e0 e1 e2 e3 mk ml mf mt m0 m1 m2 m3 h d a) (xB line hart s0 c0 c1 c2 c3 w0 k0) := by
  have h1 := back_a7 n i 0 line hart s0 k c0 c1 c2 c3 w0 k0 e0 e1 e2 e3 mk ml mf mt m0 m1 m2 m3 d0 d1 d2 d3 wr h d a
  simp only [beq_self_eq_true, cond_true, bne_self_eq_false, cond_false] at h1
  exact ⟨.a7, _, _, _, _, h1⟩
theorem armD_a7_ok (n i : Nat) (line hart s0 k c0 c1 c2 c3 w0 k0 e0 e1 e2 e3 mk ml mf mt m0 m1 m2 m3 d0 d1 d2 d3 : Int) (wr h d a : Bool) : ∃ (st' : St) (y0 y1 y2 y3 : Int), runL (ctx tkΦ) (callK (ctx tkΦ) 30) 30 2 239 9 (keeps 9) (flat armD) (midF n (Int.ofNat i) line hart s0 k) (midH line hart .a7 d0 d1 d2 d3 (dB k wr e0 e1 e2 e3 mk ml mf mt m0 m1 m2 m3 h d a) (xB line hart s0 c0 c1 c2 c3 w0 k0)) leafM = GO n i line hart s0 k st' y0 y1 y2 y3 (dB k wr e0 e1 e2 e3 mk ml mf mt m0 m1 m2 m3 h d a) (xB line hart s0 c0 c1 c2 c3 w0 k0) := by
  rcases forms mk with rfl | rfl | rfl | rfl | rfl | rfl | rfl | rfl | rfl | rfl | ⟨u, rfl⟩ | ⟨u, rfl⟩
  · have h1 := armD_a7_0 n i 0 line hart s0 k c0 c1 c2 c3 w0 k0 e0 e1 e2 e3 0 ml mf mt m0 m1 m2 m3 d0 d1 d2 d3 wr h d a
    exact ⟨.a7, _, _, _, _, h1⟩
  · have h1 := armD_a7_1 n i 0 line hart s0 k c0 c1 c2 c3 w0 k0 e0 e1 e2 e3 0 ml mf mt m0 m1 m2 m3 d0 d1 d2 d3 wr h d a
    exact ⟨.a7, _, _, _, _, h1⟩
  · have h1 := armD_a7_2 n i 0 line hart s0 k c0 c1 c2 c3 w0 k0 e0 e1 e2 e3 0 ml mf mt m0 m1 m2 m3 d0 d1 d2 d3 wr h d a
    exact ⟨.a7, _, _, _, _, h1⟩
  · have h1 := armD_a7_3 n i 0 line hart s0 k c0 c1 c2 c3 w0 k0 e0 e1 e2 e3 0 ml mf mt m0 m1 m2 m3 d0 d1 d2 d3 wr h d a
    exact ⟨.a7, _, _, _, _, h1⟩
  · have h1 := armD_a7_4 n i 0 line hart s0 k c0 c1 c2 c3 w0 k0 e0 e1 e2 e3 0 ml mf mt m0 m1 m2 m3 d0 d1 d2 d3 wr h d a
    simp only [beq_self_eq_true, cond_true] at h1
    generalize T line hart 3 0 4 ml mf mt = b1 at h1
    cases b1 <;> first | exact ⟨.a0, _, _, _, _, h1⟩ | exact ⟨.a7, _, _, _, _, h1⟩
  · have h1 := armD_a7_5 n i 0 line hart s0 k c0 c1 c2 c3 w0 k0 e0 e1 e2 e3 0 ml mf mt m0 m1 m2 m3 d0 d1 d2 d3 wr h d a
    simp only [beq_self_eq_true, cond_true] at h1
    generalize T line hart 3 0 5 ml mf mt = b1 at h1
    cases b1 <;> exact ⟨.a7, _, _, _, _, h1⟩
  · have h1 := armD_a7_6 n i 0 line hart s0 k c0 c1 c2 c3 w0 k0 e0 e1 e2 e3 0 ml mf mt m0 m1 m2 m3 d0 d1 d2 d3 wr h d a
    simp only [beq_self_eq_true, cond_true] at h1
    generalize T line hart 3 0 6 ml mf mt = b1 at h1
    cases b1 <;> first | exact ⟨.a0, _, _, _, _, h1⟩ | exact ⟨.a7, _, _, _, _, h1⟩
  · have h1 := armD_a7_7 n i 0 line hart s0 k c0 c1 c2 c3 w0 k0 e0 e1 e2 e3 0 ml mf mt m0 m1 m2 m3 d0 d1 d2 d3 wr h d a
    exact ⟨.a7, _, _, _, _, h1⟩
  · have h1 := armD_a7_8 n i 0 line hart s0 k c0 c1 c2 c3 w0 k0 e0 e1 e2 e3 0 ml mf mt m0 m1 m2 m3 d0 d1 d2 d3 wr h d a
    exact ⟨.a7, _, _, _, _, h1⟩
  · have h1 := armD_a7_9 n i 0 line hart s0 k c0 c1 c2 c3 w0 k0 e0 e1 e2 e3 0 ml mf mt m0 m1 m2 m3 d0 d1 d2 d3 wr h d a
    exact ⟨.a7, _, _, _, _, h1⟩
  · have h1 := armD_a7_big n i u line hart s0 k c0 c1 c2 c3 w0 k0 e0 e1 e2 e3 0 ml mf mt m0 m1 m2 m3 d0 d1 d2 d3 wr h d a
    exact ⟨.a7, _, _, _, _, h1⟩
  · have h1 := armD_a7_neg n i u line hart s0 k c0 c1 c2 c3 w0 k0 e0 e1 e2 e3 0 ml mf mt m0 m1 m2 m3 d0 d1 d2 d3 wr h d a
    exact ⟨.a7, _, _, _, _, h1⟩
theorem arm1_a11_ok (n i : Nat) (line hart s0 k c0 c1 c2 c3 w0 k0 e0 e1 e2 e3 mk ml mf mt m0 m1 m2 m3 d0 d1 d2 d3 : Int) (wr h d a : Bool) : ∃ (st' : St) (y0 y1 y2 y3 : Int), runL (ctx tkΦ) (callK (ctx tkΦ) 30) 30 2 239 9 (keeps 9) (flat arm1) (midF n (Int.ofNat i) line hart s0 k) (midH line hart .a11 d0 d1 d2 d3 (dB k wr e0 e1 e2 e3 mk ml mf mt m0 m1 m2 m3 h d a) (xB line hart s0 c0 c1 c2 c3 w0 k0)) leafM = GO n i line hart s0 k st' y0 y1 y2 y3 (dB k wr e0 e1 e2 e3 mk ml mf mt m0 m1 m2 m3 h d a) (xB line hart s0 c0 c1 c2 c3 w0 k0) := by
  have h1 := arm1_a11 n i 0 line hart s0 k c0 c1 c2 c3 w0 k0 e0 e1 e2 e3 mk ml mf mt m0 m1 m2 m3 d0 d1 d2 d3 wr h d a
  cases wr <;> exact ⟨.a11, _, _, _, _, h1⟩
theorem arm2_a11_ok (n i : Nat) (line hart s0 k c0 c1 c2 c3 w0 k0 e0 e1 e2 e3 mk ml mf mt m0 m1 m2 m3 d0 d1 d2 d3 : Int) (wr h d a : Bool) : ∃ (st' : St) (y0 y1 y2 y3 : Int), runL (ctx tkΦ) (callK (ctx tkΦ) 30) 30 2 239 9 (keeps 9) (flat arm2) (midF n (Int.ofNat i) line hart s0 k) (midH line hart .a11 d0 d1 d2 d3 (dB k wr e0 e1 e2 e3 mk ml mf mt m0 m1 m2 m3 h d a) (xB line hart s0 c0 c1 c2 c3 w0 k0)) leafM = GO n i line hart s0 k st' y0 y1 y2 y3 (dB k wr e0 e1 e2 e3 mk ml mf mt m0 m1 m2 m3 h d a) (xB line hart s0 c0 c1 c2 c3 w0 k0) := by
  have h1 := arm2_a11 n i 0 line hart s0 k c0 c1 c2 c3 w0 k0 e0 e1 e2 e3 mk ml mf mt m0 m1 m2 m3 d0 d1 d2 d3 wr h d a
  exact ⟨.a11, _, _, _, _, h1⟩
theorem arm3_a11_ok (n i : Nat) (line hart s0 k c0 c1 c2 c3 w0 k0 e0 e1 e2 e3 mk ml mf mt m0 m1 m2 m3 d0 d1 d2 d3 : Int) (wr h d a : Bool) : ∃ (st' : St) (y0 y1 y2 y3 : Int), runL (ctx tkΦ) (callK (ctx tkΦ) 30) 30 2 239 9 (keeps 9) (flat arm3) (midF n (Int.ofNat i) line hart s0 k) (midH line hart .a11 d0 d1 d2 d3 (dB k wr e0 e1 e2 e3 mk ml mf mt m0 m1 m2 m3 h d a) (xB line hart s0 c0 c1 c2 c3 w0 k0)) leafM = GO n i line hart s0 k st' y0 y1 y2 y3 (dB k wr e0 e1 e2 e3 mk ml mf mt m0 m1 m2 m3 h d a) (xB line hart s0 c0 c1 c2 c3 w0 k0) := by
  have h1 := arm3_a11 n i 0 line hart s0 k c0 c1 c2 c3 w0 k0 e0 e1 e2 e3 mk ml mf mt m0 m1 m2 m3 d0 d1 d2 d3 wr h d a
  exact ⟨.a11, _, _, _, _, h1⟩
theorem back_a11_ok (n i : Nat) (line hart s0 k c0 c1 c2 c3 w0 k0 e0 e1 e2 e3 mk ml mf mt m0 m1 m2 m3 d0 d1 d2 d3 : Int) (wr h d a : Bool) : ∃ (st' : St) (y0 y1 y2 y3 : Int), runL (ctx tkΦ) (callK (ctx tkΦ) 30) 30 2 239 9 (keeps 9) back (midF n (Int.ofNat i) line hart s0 k) (midH line hart .a11 d0 d1 d2 d3 (dB k wr e0 e1 e2 e3 mk ml mf mt m0 m1 m2 m3 h d a) (xB line hart s0 c0 c1 c2 c3 w0 k0)) leafM = GO n i line hart s0 k st' y0 y1 y2 y3 (dB k wr e0 e1 e2 e3 mk ml mf mt m0 m1 m2 m3 h d a) (xB line hart s0 c0 c1 c2 c3 w0 k0) := by
  have h1 := back_a11 n i 0 line hart s0 k c0 c1 c2 c3 w0 k0 e0 e1 e2 e3 mk ml mf mt m0 m1 m2 m3 d0 d1 d2 d3 wr h d a
  simp only [bne_self_eq_false, cond_false] at h1
  exact ⟨.a11, _, _, _, _, h1⟩
theorem armD_a11_ok (n i : Nat) (line hart s0 k c0 c1 c2 c3 w0 k0 e0 e1 e2 e3 mk ml mf mt m0 m1 m2 m3 d0 d1 d2 d3 : Int) (wr h d a : Bool) : ∃ (st' : St) (y0 y1 y2 y3 : Int), runL (ctx tkΦ) (callK (ctx tkΦ) 30) 30 2 239 9 (keeps 9) (flat armD) (midF n (Int.ofNat i) line hart s0 k) (midH line hart .a11 d0 d1 d2 d3 (dB k wr e0 e1 e2 e3 mk ml mf mt m0 m1 m2 m3 h d a) (xB line hart s0 c0 c1 c2 c3 w0 k0)) leafM = GO n i line hart s0 k st' y0 y1 y2 y3 (dB k wr e0 e1 e2 e3 mk ml mf mt m0 m1 m2 m3 h d a) (xB line hart s0 c0 c1 c2 c3 w0 k0) := by
  rcases forms mk with rfl | rfl | rfl | rfl | rfl | rfl | rfl | rfl | rfl | rfl | ⟨u, rfl⟩ | ⟨u, rfl⟩
  · have h1 := armD_a11_0 n i 0 line hart s0 k c0 c1 c2 c3 w0 k0 e0 e1 e2 e3 0 ml mf mt m0 m1 m2 m3 d0 d1 d2 d3 wr h d a
    exact ⟨.a11, _, _, _, _, h1⟩
  · have h1 := armD_a11_1 n i 0 line hart s0 k c0 c1 c2 c3 w0 k0 e0 e1 e2 e3 0 ml mf mt m0 m1 m2 m3 d0 d1 d2 d3 wr h d a
    exact ⟨.a11, _, _, _, _, h1⟩
  · have h1 := armD_a11_2 n i 0 line hart s0 k c0 c1 c2 c3 w0 k0 e0 e1 e2 e3 0 ml mf mt m0 m1 m2 m3 d0 d1 d2 d3 wr h d a
    exact ⟨.a11, _, _, _, _, h1⟩
  · have h1 := armD_a11_3 n i 0 line hart s0 k c0 c1 c2 c3 w0 k0 e0 e1 e2 e3 0 ml mf mt m0 m1 m2 m3 d0 d1 d2 d3 wr h d a
    exact ⟨.a11, _, _, _, _, h1⟩
  · have h1 := armD_a11_4 n i 0 line hart s0 k c0 c1 c2 c3 w0 k0 e0 e1 e2 e3 0 ml mf mt m0 m1 m2 m3 d0 d1 d2 d3 wr h d a
    simp only [beq_self_eq_true, cond_true] at h1
    generalize T line hart 0 3 4 ml mf mt = b1 at h1
    cases b1 <;> exact ⟨.a11, _, _, _, _, h1⟩
  · have h1 := armD_a11_5 n i 0 line hart s0 k c0 c1 c2 c3 w0 k0 e0 e1 e2 e3 0 ml mf mt m0 m1 m2 m3 d0 d1 d2 d3 wr h d a
    simp only [beq_self_eq_true, cond_true] at h1
    generalize T line hart 0 3 5 ml mf mt = b1 at h1
    cases b1 <;> exact ⟨.a11, _, _, _, _, h1⟩
  · have h1 := armD_a11_6 n i 0 line hart s0 k c0 c1 c2 c3 w0 k0 e0 e1 e2 e3 0 ml mf mt m0 m1 m2 m3 d0 d1 d2 d3 wr h d a
    simp only [beq_self_eq_true, cond_true] at h1
    generalize T line hart 0 3 6 ml mf mt = b1 at h1
    cases b1 <;> exact ⟨.a11, _, _, _, _, h1⟩
  · have h1 := armD_a11_7 n i 0 line hart s0 k c0 c1 c2 c3 w0 k0 e0 e1 e2 e3 0 ml mf mt m0 m1 m2 m3 d0 d1 d2 d3 wr h d a
    exact ⟨.a11, _, _, _, _, h1⟩
  · have h1 := armD_a11_8 n i 0 line hart s0 k c0 c1 c2 c3 w0 k0 e0 e1 e2 e3 0 ml mf mt m0 m1 m2 m3 d0 d1 d2 d3 wr h d a
    exact ⟨.a11, _, _, _, _, h1⟩
  · have h1 := armD_a11_9 n i 0 line hart s0 k c0 c1 c2 c3 w0 k0 e0 e1 e2 e3 0 ml mf mt m0 m1 m2 m3 d0 d1 d2 d3 wr h d a
    generalize T line hart 0 3 9 ml mf mt = b1 at h1
    cases b1 <;> first | exact ⟨.a0, _, _, _, _, h1⟩ | exact ⟨.a11, _, _, _, _, h1⟩
  · have h1 := armD_a11_big n i u line hart s0 k c0 c1 c2 c3 w0 k0 e0 e1 e2 e3 0 ml mf mt m0 m1 m2 m3 d0 d1 d2 d3 wr h d a
    exact ⟨.a11, _, _, _, _, h1⟩
  · have h1 := armD_a11_neg n i u line hart s0 k c0 c1 c2 c3 w0 k0 e0 e1 e2 e3 0 ml mf mt m0 m1 m2 m3 d0 d1 d2 d3 wr h d a
    exact ⟨.a11, _, _, _, _, h1⟩
end Go.Proofs.Ytecmjcfhbedelaa.Ab.LP
