/- LonePlays: what a round's pieces come to, in some of the line's states (1 of 4). -/
import Derived.Test.YtecmjcfhbedelaaLonePlaysRuns0
import Derived.Test.YtecmjcfhbedelaaLonePlaysForms
namespace Go.Proofs.Ytecmjcfhbedelaa.Ab.LP
open Go Go.RowKit
set_option linter.unusedVariables false
set_option linter.unusedSimpArgs false
theorem arm1_a0_ok (n i : Nat) (line hart s0 k c0 c1 c2 c3 w0 k0 e0 e1 e2 e3 mk ml mf mt m0 m1 m2 m3 d0 d1 d2 d3 : Int) (wr h d a : Bool) : ∃ (st' : St) (y0 y1 y2 y3 : Int), runL (ctx tkΦ) (callK (ctx tkΦ) 30) 30 2 239 9 (keeps 9) (flat arm1) (midF n (Int.ofNat i) line hart s0 k) (midH line hart .a0 d0 d1 d2 d3 (dB k wr e0 e1 e2 e3 mk ml mf mt m0 m1 m2 m3 h d a) (xB line hart s0 c0 c1 c2 c3 w0 k0)) leafM = GO n i line hart s0 k st' y0 y1 y2 y3 (dB k wr e0 e1 e2 e3 mk ml mf mt m0 m1 m2 m3 h d a) (xB line hart s0 c0 c1 c2 c3 w0 k0) := by
  have h1 := arm1_a0 n i 0 line hart s0 k c0 c1 c2 c3 w0 k0 e0 e1 e2 e3 mk ml mf mt m0 m1 m2 m3 d0 d1 d2 d3 wr h d a
  simp only [beq_self_eq_true, cond_true] at h1
  cases wr <;> first | exact ⟨.a1, _, _, _, _, h1⟩ | exact ⟨.a2, _, _, _, _, h1⟩
theorem arm2_a0_ok (n i : Nat) (line hart s0 k c0 c1 c2 c3 w0 k0 e0 e1 e2 e3 mk ml mf mt m0 m1 m2 m3 d0 d1 d2 d3 : Int) (wr h d a : Bool) : ∃ (st' : St) (y0 y1 y2 y3 : Int), runL (ctx tkΦ) (callK (ctx tkΦ) 30) 30 2 239 9 (keeps 9) (flat arm2) (midF n (Int.ofNat i) line hart s0 k) (midH line hart .a0 d0 d1 d2 d3 (dB k wr e0 e1 e2 e3 mk ml mf mt m0 m1 m2 m3 h d a) (xB line hart s0 c0 c1 c2 c3 w0 k0)) leafM = GO n i line hart s0 k st' y0 y1 y2 y3 (dB k wr e0 e1 e2 e3 mk ml mf mt m0 m1 m2 m3 h d a) (xB line hart s0 c0 c1 c2 c3 w0 k0) := by
  have h1 := arm2_a0 n i 0 line hart s0 k c0 c1 c2 c3 w0 k0 e0 e1 e2 e3 mk ml mf mt m0 m1 m2 m3 d0 d1 d2 d3 wr h d a
  exact ⟨.a0, _, _, _, _, h1⟩
theorem arm3_a0_ok (n i : Nat) (line hart s0 k c0 c1 c2 c3 w0 k0 e0 e1 e2 e3 mk ml mf mt m0 m1 m2 m3 d0 d1 d2 d3 : Int) (wr h d a : Bool) : ∃ (st' : St) (y0 y1 y2 y3 : Int), runL (ctx tkΦ) (callK (ctx tkΦ) 30) 30 2 239 9 (keeps 9) (flat arm3) (midF n (Int.ofNat i) line hart s0 k) (midH line hart .a0 d0 d1 d2 d3 (dB k wr e0 e1 e2 e3 mk ml mf mt m0 m1 m2 m3 h d a) (xB line hart s0 c0 c1 c2 c3 w0 k0)) leafM = GO n i line hart s0 k st' y0 y1 y2 y3 (dB k wr e0 e1 e2 e3 mk ml mf mt m0 m1 m2 m3 h d a) (xB line hart s0 c0 c1 c2 c3 w0 k0) := by
  have h1 := arm3_a0 n i 0 line hart s0 k c0 c1 c2 c3 w0 k0 e0 e1 e2 e3 mk ml mf mt m0 m1 m2 m3 d0 d1 d2 d3 wr h d a
  exact ⟨.a0, _, _, _, _, h1⟩
theorem back_a0_ok (n i : Nat) (line hart s0 k c0 c1 c2 c3 w0 k0 e0 e1 e2 e3 mk ml mf mt m0 m1 m2 m3 d0 d1 d2 d3 : Int) (wr h d a : Bool) : ∃ (st' : St) (y0 y1 y2 y3 : Int), runL (ctx tkΦ) (callK (ctx tkΦ) 30) 30 2 239 9 (keeps 9) back (midF n (Int.ofNat i) line hart s0 k) (midH line hart .a0 d0 d1 d2 d3 (dB k wr e0 e1 e2 e3 mk ml mf mt m0 m1 m2 m3 h d a) (xB line hart s0 c0 c1 c2 c3 w0 k0)) leafM = GO n i line hart s0 k st' y0 y1 y2 y3 (dB k wr e0 e1 e2 e3 mk ml mf mt m0 m1 m2 m3 h d a) (xB line hart s0 c0 c1 c2 c3 w0 k0) := by
  have h1 := back_a0 n i 0 line hart s0 k c0 c1 c2 c3 w0 k0 e0 e1 e2 e3 mk ml mf mt m0 m1 m2 m3 d0 d1 d2 d3 wr h d a
  simp only [bne_self_eq_false, cond_false] at h1
  exact ⟨.a0, _, _, _, _, h1⟩
theorem armD_a0_ok (n i : Nat) (line hart s0 k c0 c1 c2 c3 w0 k0 e0 e1 e2 e3 mk ml mf mt m0 m1 m2 m3 d0 d1 d2 d3 : Int) (wr h d a : Bool) : ∃ (st' : St) (y0 y1 y2 y3 : Int), runL (ctx tkΦ) (callK (ctx tkΦ) 30) 30 2 239 9 (keeps 9) (flat armD) (midF n (Int.ofNat i) line hart s0 k) (midH line hart .a0 d0 d1 d2 d3 (dB k wr e0 e1 e2 e3 mk ml mf mt m0 m1 m2 m3 h d a) (xB line hart s0 c0 c1 c2 c3 w0 k0)) leafM = GO n i line hart s0 k st' y0 y1 y2 y3 (dB k wr e0 e1 e2 e3 mk ml mf mt m0 m1 m2 m3 h d a) (xB line hart s0 c0 c1 c2 c3 w0 k0) := by
  rcases forms mk with rfl | rfl | rfl | rfl | rfl | rfl | rfl | rfl | rfl | rfl | ⟨u, rfl⟩ | ⟨u, rfl⟩
  · have h1 := armD_a0_0 n i 0 line hart s0 k c0 c1 c2 c3 w0 k0 e0 e1 e2 e3 0 ml mf mt m0 m1 m2 m3 d0 d1 d2 d3 wr h d a
    exact ⟨.a0, _, _, _, _, h1⟩
  · have h1 := armD_a0_1 n i 0 line hart s0 k c0 c1 c2 c3 w0 k0 e0 e1 e2 e3 0 ml mf mt m0 m1 m2 m3 d0 d1 d2 d3 wr h d a
    exact ⟨.a0, _, _, _, _, h1⟩
  · have h1 := armD_a0_2 n i 0 line hart s0 k c0 c1 c2 c3 w0 k0 e0 e1 e2 e3 0 ml mf mt m0 m1 m2 m3 d0 d1 d2 d3 wr h d a
    exact ⟨.a0, _, _, _, _, h1⟩
  · have h1 := armD_a0_3 n i 0 line hart s0 k c0 c1 c2 c3 w0 k0 e0 e1 e2 e3 0 ml mf mt m0 m1 m2 m3 d0 d1 d2 d3 wr h d a
    exact ⟨.a0, _, _, _, _, h1⟩
  · have h1 := armD_a0_4 n i 0 line hart s0 k c0 c1 c2 c3 w0 k0 e0 e1 e2 e3 0 ml mf mt m0 m1 m2 m3 d0 d1 d2 d3 wr h d a
    simp only [beq_self_eq_true, cond_true] at h1
    generalize T line hart 0 0 4 ml mf mt = b1 at h1
    cases b1 <;> exact ⟨.a0, _, _, _, _, h1⟩
  · have h1 := armD_a0_5 n i 0 line hart s0 k c0 c1 c2 c3 w0 k0 e0 e1 e2 e3 0 ml mf mt m0 m1 m2 m3 d0 d1 d2 d3 wr h d a
    simp only [beq_self_eq_true, cond_true] at h1
    generalize T line hart 0 0 5 ml mf mt = b1 at h1
    cases b1 <;> exact ⟨.a0, _, _, _, _, h1⟩
  · have h1 := armD_a0_6 n i 0 line hart s0 k c0 c1 c2 c3 w0 k0 e0 e1 e2 e3 0 ml mf mt m0 m1 m2 m3 d0 d1 d2 d3 wr h d a
    simp only [beq_self_eq_true, cond_true] at h1
    generalize T line hart 0 0 6 ml mf mt = b1 at h1
    cases b1 <;> exact ⟨.a0, _, _, _, _, h1⟩
  · have h1 := armD_a0_7 n i 0 line hart s0 k c0 c1 c2 c3 w0 k0 e0 e1 e2 e3 0 ml mf mt m0 m1 m2 m3 d0 d1 d2 d3 wr h d a
    exact ⟨.a0, _, _, _, _, h1⟩
  · have h1 := armD_a0_8 n i 0 line hart s0 k c0 c1 c2 c3 w0 k0 e0 e1 e2 e3 0 ml mf mt m0 m1 m2 m3 d0 d1 d2 d3 wr h d a
    exact ⟨.a0, _, _, _, _, h1⟩
  · have h1 := armD_a0_9 n i 0 line hart s0 k c0 c1 c2 c3 w0 k0 e0 e1 e2 e3 0 ml mf mt m0 m1 m2 m3 d0 d1 d2 d3 wr h d a
    exact ⟨.a0, _, _, _, _, h1⟩
  · have h1 := armD_a0_big n i u line hart s0 k c0 c1 c2 c3 w0 k0 e0 e1 e2 e3 0 ml mf mt m0 m1 m2 m3 d0 d1 d2 d3 wr h d a
    exact ⟨.a0, _, _, _, _, h1⟩
  · have h1 := armD_a0_neg n i u line hart s0 k c0 c1 c2 c3 w0 k0 e0 e1 e2 e3 0 ml mf mt m0 m1 m2 m3 d0 d1 d2 d3 wr h d a
    exact ⟨.a0, _, _, _, _, h1⟩
theorem arm1_a4_ok (n i : Nat) (line hart s0 k c0 c1 c2 c3 w0 k0 e0 e1 e2 e3 mk ml mf mt m0 m1 m2 m3 d0 d1 d2 d3 : Int) (wr h d a : Bool) : ∃ (st' : St) (y0 y1 y2 y3 : Int), runL (ctx tkΦ) (callK (ctx tkΦ) 30) 30 2 239 9 (keeps 9) (flat arm1) (midF n (Int.ofNat i) line hart s0 k) (midH line hart .a4 d0 d1 d2 d3 (dB k wr e0 e1 e2 e3 mk ml mf mt m0 m1 m2 m3 h d a) (xB line hart s0 c0 c1 c2 c3 w0 k0)) leafM = GO n i line hart s0 k st' y0 y1 y2 y3 (dB k wr e0 e1 e2 e3 mk ml mf mt m0 m1 m2 m3 h d a) (xB line hart s0 c0 c1 c2 c3 w0 k0) := by
  have h1 := arm1_a4 n i 0 line hart s0 k c0 c1 c2 c3 w0 k0 e0 e1 e2 e3 mk ml mf mt m0 m1 m2 m3 d0 d1 d2 d3 wr h d a
  cases wr <;> exact ⟨.a4, _, _, _, _, h1⟩
theorem arm2_a4_ok (n i : Nat) (line hart s0 k c0 c1 c2 c3 w0 k0 e0 e1 e2 e3 mk ml mf mt m0 m1 m2 m3 d0 d1 d2 d3 : Int) (wr h d a : Bool) : ∃ (st' : St) (y0 y1 y2 y3 : Int), runL (ctx tkΦ) (callK (ctx tkΦ) 30) 30 2 239 9 (keeps 9) (flat arm2) (midF n (Int.ofNat i) line hart s0 k) (midH line hart .a4 d0 d1 d2 d3 (dB k wr e0 e1 e2 e3 mk ml mf mt m0 m1 m2 m3 h d a) (xB line hart s0 c0 c1 c2 c3 w0 k0)) leafM = GO n i line hart s0 k st' y0 y1 y2 y3 (dB k wr e0 e1 e2 e3 mk ml mf mt m0 m1 m2 m3 h d a) (xB line hart s0 c0 c1 c2 c3 w0 k0) := by
  have h1 := arm2_a4 n i 0 line hart s0 k c0 c1 c2 c3 w0 k0 e0 e1 e2 e3 mk ml mf mt m0 m1 m2 m3 d0 d1 d2 d3 wr h d a
  simp only [beq_self_eq_true, cond_true] at h1
  exact ⟨.a8, _, _, _, _, h1⟩
theorem arm3_a4_ok (n i : Nat) (line hart s0 k c0 c1 c2 c3 w0 k0 e0 e1 e2 e3 mk ml mf mt m0 m1 m2 m3 d0 d1 d2 d3 : Int) (wr h d a : Bool) : ∃ (st' : St) (y0 y1 y2 y3 : Int), runL (ctx tkΦ) (callK (ctx tkΦ) 30) 30 2 239 9 (keeps 9) (flat arm3) (midF n (Int.ofNat i) line hart s0 k) (midH line hart .a4 d0 d1 d2 d3 (dB k wr e0 e1 e2 e3 mk ml mf mt m0 m1 m2 m3 h d a) (xB line hart s0 c0 c1 c2 c3 w0 k0)) leafM = GO n i line hart s0 k st' y0 y1 y2 y3 (dB k wr e0 e1 e2 e3 mk ml mf mt m0 m1 m2 m3 h d a) (xB line hart s0 c0 c1 c2 c3 w0 k0) := by
  have h1 := arm3_a4 n i 0 line hart s0 k c0 c1 c2 c3 w0 k0 e0 e1 e2 e3 mk ml mf mt m0 m1 m2 m3 d0 d1 d2 d3 wr h d a
  exact ⟨.a3, _, _, _, _, h1⟩
theorem back_a4_ok (n i : Nat) (line hart s0 k c0 c1 c2 c3 w0 k0 e0 e1 e2 e3 mk ml mf mt m0 m1 m2 m3 d0 d1 d2 d3 : Int) (wr h d a : Bool) : ∃ (st' : St) (y0 y1 y2 y3 : Int), runL (ctx tkΦ) (callK (ctx tkΦ) 30) 30 2 239 9 (keeps 9) back (midF n (Int.ofNat i) line hart s0 k) (midH line hart .a4 d0 d1 d2 d3 (dB k wr e0 e1 e2 e3 mk ml mf mt m0 m1 m2 m3 h d a) (xB line hart s0 c0 c1 c2 c3 w0 k0)) leafM = GO n i line hart s0 k st' y0 y1 y2 y3 (dB k wr e0 e1 e2 e3 mk ml mf mt m0 m1 m2 m3 h d a) (xB line hart s0 c0 c1 c2 c3 w0 k0) := by
  have h1 := back_a4 n i 0 line hart s0 k c0 c1 c2 c3 w0 k0 e0 e1 e2 e3 mk ml mf mt m0 m1 m2 m3 d0 d1 d2 d3 wr h d a
  simp only [beq_self_eq_true, cond_true, bne_self_eq_false, cond_false] at h1
  exact ⟨.a4, _, _, _, _, h1⟩
theorem armD_a4_ok (n i : Nat) (line hart s0 k c0 c1 c2 c3 w0 k0 e0 e1 e2 e3 mk ml mf mt m0 m1 m2 m3 d0 d1 d2 d3 : Int) (wr h d a : Bool) : ∃ (st' : St) (y0 y1 y2 y3 : Int), runL (ctx tkΦ) (callK (ctx tkΦ) 30) 30 2 239 9 (keeps 9) (flat armD) (midF n (Int.ofNat i) line hart s0 k) (midH line hart .a4 d0 d1 d2 d3 (dB k wr e0 e1 e2 e3 mk ml mf mt m0 m1 m2 m3 h d a) (xB line hart s0 c0 c1 c2 c3 w0 k0)) leafM = GO n i line hart s0 k st' y0 y1 y2 y3 (dB k wr e0 e1 e2 e3 mk ml mf mt m0 m1 m2 m3 h d a) (xB line hart s0 c0 c1 c2 c3 w0 k0) := by
  rcases forms mk with rfl | rfl | rfl | rfl | rfl | rfl | rfl | rfl | rfl | rfl | ⟨u, rfl⟩ | ⟨u, rfl⟩
  · have h1 := armD_a4_0 n i 0 line hart s0 k c0 c1 c2 c3 w0 k0 e0 e1 e2 e3 0 ml mf mt m0 m1 m2 m3 d0 d1 d2 d3 wr h d a
    exact ⟨.a4, _, _, _, _, h1⟩
  · have h1 := armD_a4_1 n i 0 line hart s0 k c0 c1 c2 c3 w0 k0 e0 e1 e2 e3 0 ml mf mt m0 m1 m2 m3 d0 d1 d2 d3 wr h d a
    exact ⟨.a4, _, _, _, _, h1⟩
  · have h1 := armD_a4_2 n i 0 line hart s0 k c0 c1 c2 c3 w0 k0 e0 e1 e2 e3 0 ml mf mt m0 m1 m2 m3 d0 d1 d2 d3 wr h d a
    exact ⟨.a4, _, _, _, _, h1⟩
  · have h1 := armD_a4_3 n i 0 line hart s0 k c0 c1 c2 c3 w0 k0 e0 e1 e2 e3 0 ml mf mt m0 m1 m2 m3 d0 d1 d2 d3 wr h d a
    exact ⟨.a4, _, _, _, _, h1⟩
  · have h1 := armD_a4_4 n i 0 line hart s0 k c0 c1 c2 c3 w0 k0 e0 e1 e2 e3 0 ml mf mt m0 m1 m2 m3 d0 d1 d2 d3 wr h d a
    simp only [beq_self_eq_true, cond_true] at h1
    generalize T line hart 2 0 4 ml mf mt = b1 at h1
    cases b1 <;> first | exact ⟨.a0, _, _, _, _, h1⟩ | exact ⟨.a4, _, _, _, _, h1⟩
  · have h1 := armD_a4_5 n i 0 line hart s0 k c0 c1 c2 c3 w0 k0 e0 e1 e2 e3 0 ml mf mt m0 m1 m2 m3 d0 d1 d2 d3 wr h d a
    simp only [beq_self_eq_true, cond_true] at h1
    generalize T line hart 2 0 5 ml mf mt = b1 at h1
    cases b1 <;> first | exact ⟨.a5, _, _, _, _, h1⟩ | exact ⟨.a4, _, _, _, _, h1⟩
  · have h1 := armD_a4_6 n i 0 line hart s0 k c0 c1 c2 c3 w0 k0 e0 e1 e2 e3 0 ml mf mt m0 m1 m2 m3 d0 d1 d2 d3 wr h d a
    simp only [beq_self_eq_true, cond_true] at h1
    generalize T line hart 2 0 6 ml mf mt = b1 at h1
    cases b1 <;> first | exact ⟨.a0, _, _, _, _, h1⟩ | exact ⟨.a4, _, _, _, _, h1⟩
  · have h1 := armD_a4_7 n i 0 line hart s0 k c0 c1 c2 c3 w0 k0 e0 e1 e2 e3 0 ml mf mt m0 m1 m2 m3 d0 d1 d2 d3 wr h d a
    exact ⟨.a4, _, _, _, _, h1⟩
  · have h1 := armD_a4_8 n i 0 line hart s0 k c0 c1 c2 c3 w0 k0 e0 e1 e2 e3 0 ml mf mt m0 m1 m2 m3 d0 d1 d2 d3 wr h d a
    exact ⟨.a4, _, _, _, _, h1⟩
  · have h1 := armD_a4_9 n i 0 line hart s0 k c0 c1 c2 c3 w0 k0 e0 e1 e2 e3 0 ml mf mt m0 m1 m2 m3 d0 d1 d2 d3 wr h d a
    exact ⟨.a4, _, _, _, _, h1⟩
  · have h1 := armD_a4_big n i u line hart s0 k c0 c1 c2 c3 w0 k0 e0 e1 e2 e3 0 ml mf mt m0 m1 m2 m3 d0 d1 d2 d3 wr h d a
    exact ⟨.a4, _, _, _, _, h1⟩
  · have h1 := armD_a4_neg n i u line hart s0 k c0 c1 c2 c3 w0 k0 e0 e1 e2 e3 0 ml mf mt m0 m1 m2 m3 d0 d1 d2 d3 wr h d a
    exact ⟨.a4, _, _, _, _, h1⟩
theorem arm1_a8_ok (n i : Nat) (line hart s0 k c0 c1 c2 c3 w0 k0 e0 e1 e2 e3 mk ml mf mt m0 m1 m2 m3 d0 d1 d2 d3 : Int) (wr h d a : Bool) : ∃ (st' : St) (y0 y1 y2 y3 : Int), runL (ctx tkΦ) (callK (ctx tkΦ) 30) 30 2 239 9 (keeps 9) (flat arm1) (midF n (Int.ofNat i) line hart s0 k) (midH line hart .a8 d0 d1 d2 d3 (dB k wr e0 e1 e2 e3 mk ml mf mt m0 m1 m2 m3 h d a) (xB line hart s0 c0 c1 c2 c3 w0 k0)) leafM = GO n i line hart s0 k st' y0 y1 y2 y3 (dB k wr e0 e1 e2 e3 mk ml mf mt m0 m1 m2 m3 h d a) (xB line hart s0 c0 c1 c2 c3 w0 k0) := by
  have h1 := arm1_a8 n i 0 line hart s0 k c0 c1 c2 c3 w0 k0 e0 e1 e2 e3 mk ml mf mt m0 m1 m2 m3 d0 d1 d2 d3 wr h d a
  cases wr <;> exact ⟨.a8, _, _, _, _, h1⟩
theorem arm2_a8_ok (n i : Nat) (line hart s0 k c0 c1 c2 c3 w0 k0 e0 e1 e2 e3 mk ml mf mt m0 m1 m2 m3 d0 d1 d2 d3 : Int) (wr h d a : Bool) : ∃ (st' : St) (y0 y1 y2 y3 : Int), runL (ctx tkΦ) (callK (ctx tkΦ) 30) 30 2 239 9 (keeps 9) (flat arm2) (midF n (Int.ofNat i) line hart s0 k) (midH line hart .a8 d0 d1 d2 d3 (dB k wr e0 e1 e2 e3 mk ml mf mt m0 m1 m2 m3 h d a) (xB line hart s0 c0 c1 c2 c3 w0 k0)) leafM = GO n i line hart s0 k st' y0 y1 y2 y3 (dB k wr e0 e1 e2 e3 mk ml mf mt m0 m1 m2 m3 h d a) (xB line hart s0 c0 c1 c2 c3 w0 k0) := by
  have h1 := arm2_a8 n i 0 line hart s0 k c0 c1 c2 c3 w0 k0 e0 e1 e2 e3 mk ml mf mt m0 m1 m2 m3 d0 d1 d2 d3 wr h d a
  exact ⟨.a8, _, _, _, _, h1⟩
theorem arm3_a8_ok (n i : Nat) (line hart s0 k c0 c1 c2 c3 w0 k0 e0 e1 e2 e3 mk ml mf mt m0 m1 m2 m3 d0 d1 d2 d3 : Int) (wr h d a : Bool) : ∃ (st' : St) (y0 y1 y2 y3 : Int), runL (ctx tkΦ) (callK (ctx tkΦ) 30) 30 2 239 9 (keeps 9) (flat arm3) (midF n (Int.ofNat i) line hart s0 k) (midH line hart .a8 d0 d1 d2 d3 (dB k wr e0 e1 e2 e3 mk ml mf mt m0 m1 m2 m3 h d a) (xB line hart s0 c0 c1 c2 c3 w0 k0)) leafM = GO n i line hart s0 k st' y0 y1 y2 y3 (dB k wr e0 e1 e2 e3 mk ml mf mt m0 m1 m2 m3 h d a) (xB line hart s0 c0 c1 c2 c3 w0 k0) := by
  have h1 := arm3_a8 n i 0 line hart s0 k c0 c1 c2 c3 w0 k0 e0 e1 e2 e3 mk ml mf mt m0 m1 m2 m3 d0 d1 d2 d3 wr h d a
  exact ⟨.a8, _, _, _, _, h1⟩
theorem back_a8_ok (n i : Nat) (line hart s0 k c0 c1 c2 c3 w0 k0 e0 e1 e2 e3 mk ml mf mt m0 m1 m2 m3 d0 d1 d2 d3 : Int) (wr h d a : Bool) : ∃ (st' : St) (y0 y1 y2 y3 : Int), runL (ctx tkΦ) (callK (ctx tkΦ) 30) 30 2 239 9 (keeps 9) back (midF n (Int.ofNat i) line hart s0 k) (midH line hart .a8 d0 d1 d2 d3 (dB k wr e0 e1 e2 e3 mk ml mf mt m0 m1 m2 m3 h d a) (xB line hart s0 c0 c1 c2 c3 w0 k0)) leafM = GO n i line hart s0 k st' y0 y1 y2 y3 (dB k wr e0 e1 e2 e3 mk ml mf mt m0 m1 m2 m3 h d a) (xB line hart s0 c0 c1 c2 c3 w0 k0) := by
  have h1 := back_a8 n i 0 line hart s0 k c0 c1 c2 c3 w0 k0 e0 e1 e2 e3 mk ml mf mt m0 m1 m2 m3 d0 d1 d2 d3 wr h d a
  simp only [bne_self_eq_false, cond_false] at h1
  exact ⟨.a8, _, _, _, _, h1⟩
theorem armD_a8_ok (n i : Nat) (line hart s0 k c0 c1 c2 c3 w0 k0 e0 e1 e2 e3 mk ml mf mt m0 m1 m2 m3 d0 d1 d2 d3 : Int) (wr h d a : Bool) : ∃ (st' : St) (y0 y1 y2 y3 : Int), runL (ctx tkΦ) (callK (ctx tkΦ) 30) 30 2 239 9 (keeps 9) (flat armD) (midF n (Int.ofNat i) line hart s0 k) (midH line hart .a8 d0 d1 d2 d3 (dB k wr e0 e1 e2 e3 mk ml mf mt m0 m1 m2 m3 h d a) (xB line hart s0 c0 c1 c2 c3 w0 k0)) leafM = GO n i line hart s0 k st' y0 y1 y2 y3 (dB k wr e0 e1 e2 e3 mk ml mf mt m0 m1 m2 m3 h d a) (xB line hart s0 c0 c1 c2 c3 w0 k0) := by
  rcases forms mk with rfl | rfl | rfl | rfl | rfl | rfl | rfl | rfl | rfl | rfl | ⟨u, rfl⟩ | ⟨u, rfl⟩
  · have h1 := armD_a8_0 n i 0 line hart s0 k c0 c1 c2 c3 w0 k0 e0 e1 e2 e3 0 ml mf mt m0 m1 m2 m3 d0 d1 d2 d3 wr h d a
    exact ⟨.a8, _, _, _, _, h1⟩
  · have h1 := armD_a8_1 n i 0 line hart s0 k c0 c1 c2 c3 w0 k0 e0 e1 e2 e3 0 ml mf mt m0 m1 m2 m3 d0 d1 d2 d3 wr h d a
    exact ⟨.a8, _, _, _, _, h1⟩
  · have h1 := armD_a8_2 n i 0 line hart s0 k c0 c1 c2 c3 w0 k0 e0 e1 e2 e3 0 ml mf mt m0 m1 m2 m3 d0 d1 d2 d3 wr h d a
    exact ⟨.a8, _, _, _, _, h1⟩
  · have h1 := armD_a8_3 n i 0 line hart s0 k c0 c1 c2 c3 w0 k0 e0 e1 e2 e3 0 ml mf mt m0 m1 m2 m3 d0 d1 d2 d3 wr h d a
    exact ⟨.a8, _, _, _, _, h1⟩
  · have h1 := armD_a8_4 n i 0 line hart s0 k c0 c1 c2 c3 w0 k0 e0 e1 e2 e3 0 ml mf mt m0 m1 m2 m3 d0 d1 d2 d3 wr h d a
    simp only [beq_self_eq_true, cond_true] at h1
    generalize T line hart 0 3 4 ml mf mt = b1 at h1
    cases b1 <;> exact ⟨.a8, _, _, _, _, h1⟩
  · have h1 := armD_a8_5 n i 0 line hart s0 k c0 c1 c2 c3 w0 k0 e0 e1 e2 e3 0 ml mf mt m0 m1 m2 m3 d0 d1 d2 d3 wr h d a
    simp only [beq_self_eq_true, cond_true] at h1
    generalize T line hart 0 3 5 ml mf mt = b1 at h1
    cases b1 <;> first | exact ⟨.a13, _, _, _, _, h1⟩ | exact ⟨.a8, _, _, _, _, h1⟩
  · have h1 := armD_a8_6 n i 0 line hart s0 k c0 c1 c2 c3 w0 k0 e0 e1 e2 e3 0 ml mf mt m0 m1 m2 m3 d0 d1 d2 d3 wr h d a
    simp only [beq_self_eq_true, cond_true] at h1
    generalize T line hart 0 3 6 ml mf mt = b1 at h1
    cases b1 <;> first | exact ⟨.a11, _, _, _, _, h1⟩ | exact ⟨.a8, _, _, _, _, h1⟩
  · have h1 := armD_a8_7 n i 0 line hart s0 k c0 c1 c2 c3 w0 k0 e0 e1 e2 e3 0 ml mf mt m0 m1 m2 m3 d0 d1 d2 d3 wr h d a
    exact ⟨.a8, _, _, _, _, h1⟩
  · have h1 := armD_a8_8 n i 0 line hart s0 k c0 c1 c2 c3 w0 k0 e0 e1 e2 e3 0 ml mf mt m0 m1 m2 m3 d0 d1 d2 d3 wr h d a
    exact ⟨.a8, _, _, _, _, h1⟩
  · have h1 := armD_a8_9 n i 0 line hart s0 k c0 c1 c2 c3 w0 k0 e0 e1 e2 e3 0 ml mf mt m0 m1 m2 m3 d0 d1 d2 d3 wr h d a
    generalize T line hart 0 3 9 ml mf mt = b1 at h1
    cases b1 <;> first | exact ⟨.a0, _, _, _, _, h1⟩ | exact ⟨.a8, _, _, _, _, h1⟩
  · have h1 := armD_a8_big n i u line hart s0 k c0 c1 c2 c3 w0 k0 e0 e1 e2 e3 0 ml mf mt m0 m1 m2 m3 d0 d1 d2 d3 wr h d a
    exact ⟨.a8, _, _, _, _, h1⟩
  · have h1 := armD_a8_neg n i u line hart s0 k c0 c1 c2 c3 w0 k0 e0 e1 e2 e3 0 ml mf mt m0 m1 m2 m3 d0 d1 d2 d3 wr h d a
    exact ⟨.a8, _, _, _, _, h1⟩
theorem arm1_a12_ok (n i : Nat) (line hart s0 k c0 c1 c2 c3 w0 k0 e0 e1 e2 e3 mk ml mf mt m0 m1 m2 m3 d0 d1 d2 d3 : Int) (wr h d a : Bool) : ∃ (st' : St) (y0 y1 y2 y3 : Int), runL (ctx tkΦ) (callK (ctx tkΦ) 30) 30 2 239 9 (keeps 9) (flat arm1) (midF n (Int.ofNat i) line hart s0 k) (midH line hart .a12 d0 d1 d2 d3 (dB k wr e0 e1 e2 e3 mk ml mf mt m0 m1 m2 m3 h d a) (xB line hart s0 c0 c1 c2 c3 w0 k0)) leafM = GO n i line hart s0 k st' y0 y1 y2 y3 (dB k wr e0 e1 e2 e3 mk ml mf mt m0 m1 m2 m3 h d a) (xB line hart s0 c0 c1 c2 c3 w0 k0) := by
  have h1 := arm1_a12 n i 0 line hart s0 k c0 c1 c2 c3 w0 k0 e0 e1 e2 e3 mk ml mf mt m0 m1 m2 m3 d0 d1 d2 d3 wr h d a
  cases wr <;> exact ⟨.a12, _, _, _, _, h1⟩
theorem arm2_a12_ok (n i : Nat) (line hart s0 k c0 c1 c2 c3 w0 k0 e0 e1 e2 e3 mk ml mf mt m0 m1 m2 m3 d0 d1 d2 d3 : Int) (wr h d a : Bool) : ∃ (st' : St) (y0 y1 y2 y3 : Int), runL (ctx tkΦ) (callK (ctx tkΦ) 30) 30 2 239 9 (keeps 9) (flat arm2) (midF n (Int.ofNat i) line hart s0 k) (midH line hart .a12 d0 d1 d2 d3 (dB k wr e0 e1 e2 e3 mk ml mf mt m0 m1 m2 m3 h d a) (xB line hart s0 c0 c1 c2 c3 w0 k0)) leafM = GO n i line hart s0 k st' y0 y1 y2 y3 (dB k wr e0 e1 e2 e3 mk ml mf mt m0 m1 m2 m3 h d a) (xB line hart s0 c0 c1 c2 c3 w0 k0) := by
  have h1 := arm2_a12 n i 0 line hart s0 k c0 c1 c2 c3 w0 k0 e0 e1 e2 e3 mk ml mf mt m0 m1 m2 m3 d0 d1 d2 d3 wr h d a
  exact ⟨.a12, _, _, _, _, h1⟩
theorem arm3_a12_ok (n i : Nat) (line hart s0 k c0 c1 c2 c3 w0 k0 e0 e1 e2 e3 mk ml mf mt m0 m1 m2 m3 d0 d1 d2 d3 : Int) (wr h d a : Bool) : ∃ (st' : St) (y0 y1 y2 y3 : Int), runL (ctx tkΦ) (callK (ctx tkΦ) 30) 30 2 239 9 (keeps 9) (flat arm3) (midF n (Int.ofNat i) line hart s0 k) (midH line hart .a12 d0 d1 d2 d3 (dB k wr e0 e1 e2 e3 mk ml mf mt m0 m1 m2 m3 h d a) (xB line hart s0 c0 c1 c2 c3 w0 k0)) leafM = GO n i line hart s0 k st' y0 y1 y2 y3 (dB k wr e0 e1 e2 e3 mk ml mf mt m0 m1 m2 m3 h d a) (xB line hart s0 c0 c1 c2 c3 w0 k0) := by
  have h1 := arm3_a12 n i 0 line hart s0 k c0 c1 c2 c3 w0 k0 e0 e1 e2 e3 mk ml mf mt m0 m1 m2 m3 d0 d1 d2 d3 wr h d a
  exact ⟨.a12, _, _, _, _, h1⟩
theorem back_a12_ok (n i : Nat) (line hart s0 k c0 c1 c2 c3 w0 k0 e0 e1 e2 e3 mk ml mf mt m0 m1 m2 m3 d0 d1 d2 d3 : Int) (wr h d a : Bool) : ∃ (st' : St) (y0 y1 y2 y3 : Int), runL (ctx tkΦ) (callK (ctx tkΦ) 30) 30 2 239 9 (keeps 9) back (midF n (Int.ofNat i) line hart s0 k) (midH line hart .a12 d0 d1 d2 d3 (dB k wr e0 e1 e2 e3 mk ml mf mt m0 m1 m2 m3 h d a) (xB line hart s0 c0 c1 c2 c3 w0 k0)) leafM = GO n i line hart s0 k st' y0 y1 y2 y3 (dB k wr e0 e1 e2 e3 mk ml mf mt m0 m1 m2 m3 h d a) (xB line hart s0 c0 c1 c2 c3 w0 k0) := by
  have h1 := back_a12 n i 0 line hart s0 k c0 c1 c2 c3 w0 k0 e0 e1 e2 e3 mk ml mf mt m0 m1 m2 m3 d0 d1 d2 d3 wr h d a
  simp only [beq_self_eq_true, cond_true, bne_self_eq_false, cond_false] at h1
  exact ⟨.a12, _, _, _, _, h1⟩
theorem armD_a12_ok (n i : Nat) (line hart s0 k c0 c1 c2 c3 w0 k0 e0 e1 e2 e3 mk ml mf mt m0 m1 m2 m3 d0 d1 d2 d3 : Int) (wr h d a : Bool) : ∃ (st' : St) (y0 y1 y2 y3 : Int), runL (ctx tkΦ) (callK (ctx tkΦ) 30) 30 2 239 9 (keeps 9) (flat armD) (midF n (Int.ofNat i) line hart s0 k) (midH line hart .a12 d0 d1 d2 d3 (dB k wr e0 e1 e2 e3 mk ml mf mt m0 m1 m2 m3 h d a) (xB line hart s0 c0 c1 c2 c3 w0 k0)) leafM = GO n i line hart s0 k st' y0 y1 y2 y3 (dB k wr e0 e1 e2 e3 mk ml mf mt m0 m1 m2 m3 h d a) (xB line hart s0 c0 c1 c2 c3 w0 k0) := by
  rcases forms mk with rfl | rfl | rfl | rfl | rfl | rfl | rfl | rfl | rfl | rfl | ⟨u, rfl⟩ | ⟨u, rfl⟩
  · have h1 := armD_a12_0 n i 0 line hart s0 k c0 c1 c2 c3 w0 k0 e0 e1 e2 e3 0 ml mf mt m0 m1 m2 m3 d0 d1 d2 d3 wr h d a
    exact ⟨.a12, _, _, _, _, h1⟩
  · have h1 := armD_a12_1 n i 0 line hart s0 k c0 c1 c2 c3 w0 k0 e0 e1 e2 e3 0 ml mf mt m0 m1 m2 m3 d0 d1 d2 d3 wr h d a
    exact ⟨.a12, _, _, _, _, h1⟩
  · have h1 := armD_a12_2 n i 0 line hart s0 k c0 c1 c2 c3 w0 k0 e0 e1 e2 e3 0 ml mf mt m0 m1 m2 m3 d0 d1 d2 d3 wr h d a
    exact ⟨.a12, _, _, _, _, h1⟩
  · have h1 := armD_a12_3 n i 0 line hart s0 k c0 c1 c2 c3 w0 k0 e0 e1 e2 e3 0 ml mf mt m0 m1 m2 m3 d0 d1 d2 d3 wr h d a
    exact ⟨.a12, _, _, _, _, h1⟩
  · have h1 := armD_a12_4 n i 0 line hart s0 k c0 c1 c2 c3 w0 k0 e0 e1 e2 e3 0 ml mf mt m0 m1 m2 m3 d0 d1 d2 d3 wr h d a
    simp only [beq_self_eq_true, cond_true] at h1
    generalize T line hart 3 2 4 ml mf mt = b1 at h1
    cases b1 <;> first | exact ⟨.a1, _, _, _, _, h1⟩ | exact ⟨.a12, _, _, _, _, h1⟩
  · have h1 := armD_a12_5 n i 0 line hart s0 k c0 c1 c2 c3 w0 k0 e0 e1 e2 e3 0 ml mf mt m0 m1 m2 m3 d0 d1 d2 d3 wr h d a
    simp only [beq_self_eq_true, cond_true] at h1
    generalize T line hart 3 2 5 ml mf mt = b1 at h1
    cases b1 <;> exact ⟨.a12, _, _, _, _, h1⟩
  · have h1 := armD_a12_6 n i 0 line hart s0 k c0 c1 c2 c3 w0 k0 e0 e1 e2 e3 0 ml mf mt m0 m1 m2 m3 d0 d1 d2 d3 wr h d a
    simp only [beq_self_eq_true, cond_true] at h1
    generalize T line hart 3 2 6 ml mf mt = b1 at h1
    cases b1 <;> first | exact ⟨.a1, _, _, _, _, h1⟩ | exact ⟨.a12, _, _, _, _, h1⟩
  · have h1 := armD_a12_7 n i 0 line hart s0 k c0 c1 c2 c3 w0 k0 e0 e1 e2 e3 0 ml mf mt m0 m1 m2 m3 d0 d1 d2 d3 wr h d a
    simp only [beq_self_eq_true, cond_true] at h1
    generalize T line hart 3 2 7 ml mf mt = b1 at h1
    cases b1 <;> cases d <;> first | exact ⟨.a3, _, _, _, _, h1⟩ | exact ⟨.a4, _, _, _, _, h1⟩ | exact ⟨.a12, _, _, _, _, h1⟩
  · have h1 := armD_a12_8 n i 0 line hart s0 k c0 c1 c2 c3 w0 k0 e0 e1 e2 e3 0 ml mf mt m0 m1 m2 m3 d0 d1 d2 d3 wr h d a
    simp only [beq_self_eq_true, cond_true] at h1
    generalize T line hart 3 2 8 ml mf mt = b1 at h1
    cases b1 <;> first | exact ⟨.a3, _, _, _, _, h1⟩ | exact ⟨.a12, _, _, _, _, h1⟩
  · have h1 := armD_a12_9 n i 0 line hart s0 k c0 c1 c2 c3 w0 k0 e0 e1 e2 e3 0 ml mf mt m0 m1 m2 m3 d0 d1 d2 d3 wr h d a
    exact ⟨.a12, _, _, _, _, h1⟩
  · have h1 := armD_a12_big n i u line hart s0 k c0 c1 c2 c3 w0 k0 e0 e1 e2 e3 0 ml mf mt m0 m1 m2 m3 d0 d1 d2 d3 wr h d a
    exact ⟨.a12, _, _, _, _, h1⟩
  · have h1 := armD_a12_neg n i u line hart s0 k c0 c1 c2 c3 w0 k0 e0 e1 e2 e3 0 ml mf mt m0 m1 m2 m3 d0 d1 d2 d3 wr h d a
    exact ⟨.a12, _, _, _, _, h1⟩
end Go.Proofs.Ytecmjcfhbedelaa.Ab.LP
