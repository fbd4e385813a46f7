/- LonePlays: what a round's pieces come to, in some of the line's states (3 of 4). -/
import Derived.Test.YtecmjcfhbedelaaLonePlaysRuns2
import Derived.Test.YtecmjcfhbedelaaLonePlaysForms
namespace Go.Proofs.Ytecmjcfhbedelaa.Ab.LP
open Go Go.RowKit
set_option linter.unusedVariables false
set_option linter.unusedSimpArgs false
theorem arm1_a2_ok (n i : Nat) (line hart s0 k c0 c1 c2 c3 w0 k0 e0 e1 e2 e3 mk ml mf mt m0 m1 m2 m3 d0 d1 d2 d3 : Int) (wr h d a : Bool) : ∃ (st' : St) (y0 y1 y2 y3 : Int), runL (ctx tkΦ) (callK (ctx tkΦ) 30) 30 2 239 9 (keeps 9) (flat arm1) (midF n (Int.ofNat i) line hart s0 k) (midH line hart .a2 d0 d1 d2 d3 (dB k wr e0 e1 e2 e3 mk ml mf mt m0 m1 m2 m3 h d a) (xB line hart s0 c0 c1 c2 c3 w0 k0)) leafM = GO n i line hart s0 k st' y0 y1 y2 y3 (dB k wr e0 e1 e2 e3 mk ml mf mt m0 m1 m2 m3 h d a) (xB line hart s0 c0 c1 c2 c3 w0 k0) := by
  have h1 := arm1_a2 n i 0 line hart s0 k c0 c1 c2 c3 w0 k0 e0 e1 e2 e3 mk ml mf mt m0 m1 m2 m3 d0 d1 d2 d3 wr h d a
  cases wr <;> exact ⟨.a2, _, _, _, _, h1⟩
theorem arm2_a2_ok (n i : Nat) (line hart s0 k c0 c1 c2 c3 w0 k0 e0 e1 e2 e3 mk ml mf mt m0 m1 m2 m3 d0 d1 d2 d3 : Int) (wr h d a : Bool) : ∃ (st' : St) (y0 y1 y2 y3 : Int), runL (ctx tkΦ) (callK (ctx tkΦ) 30) 30 2 239 9 (keeps 9) (flat arm2) (midF n (Int.ofNat i) line hart s0 k) (midH line hart .a2 d0 d1 d2 d3 (dB k wr e0 e1 e2 e3 mk ml mf mt m0 m1 m2 m3 h d a) (xB line hart s0 c0 c1 c2 c3 w0 k0)) leafM = GO n i line hart s0 k st' y0 y1 y2 y3 (dB k wr e0 e1 e2 e3 mk ml mf mt m0 m1 m2 m3 h d a) (xB line hart s0 c0 c1 c2 c3 w0 k0) := by
  have h1 := arm2_a2 n i 0 line hart s0 k c0 c1 c2 c3 w0 k0 e0 e1 e2 e3 mk ml mf mt m0 m1 m2 m3 d0 d1 d2 d3 wr h d a
  exact ⟨.a2, _, _, _, _, h1⟩
theorem arm3_a2_ok (n i : Nat) (line hart s0 k c0 c1 c2 c3 w0 k0 e0 e1 e2 e3 mk ml mf mt m0 m1 m2 m3 d0 d1 d2 d3 : Int) (wr h d a : Bool) : ∃ (st' : St) (y0 y1 y2 y3 : Int), runL (ctx tkΦ) (callK (ctx tkΦ) 30) 30 2 239 9 (keeps 9) (flat arm3) (midF n (Int.ofNat i) line hart s0 k) (midH line hart .a2 d0 d1 d2 d3 (dB k wr e0 e1 e2 e3 mk ml mf mt m0 m1 m2 m3 h d a) (xB line hart s0 c0 c1 c2 c3 w0 k0)) leafM = GO n i line hart s0 k st' y0 y1 y2 y3 (dB k wr e0 e1 e2 e3 mk ml mf mt m0 m1 m2 m3 h d a) (xB line hart s0 c0 c1 c2 c3 w0 k0) := by
  have h1 := arm3_a2 n i 0 line hart s0 k c0 c1 c2 c3 w0 k0 e0 e1 e2 e3 mk ml mf mt m0 m1 m2 m3 d0 d1 d2 d3 wr h d a
  exact ⟨.a2, _, _, _, _, h1⟩
theorem back_a2_ok (n i : Nat) (line hart s0 k c0 c1 c2 c3 w0 k0 e0 e1 e2 e3 mk ml mf mt m0 m1 m2 m3 d0 d1 d2 d3 : Int) (wr h d a : Bool) : ∃ (st' : St) (y0 y1 y2 y3 : Int), runL (ctx tkΦ) (callK (ctx tkΦ) 30) 30 2 239 9 (keeps 9) back (midF n (Int.ofNat i) line hart s0 k) (midH line hart .a2 d0 d1 d2 d3 (dB k wr e0 e1 e2 e3 mk ml mf mt m0 m1 m2 m3 h d a) (xB line hart s0 c0 c1 c2 c3 w0 k0)) leafM = GO n i line hart s0 k st' y0 y1 y2 y3 (dB k wr e0 e1 e2 e3 mk ml mf mt m0 m1 m2 m3 h d a) (xB line hart s0 c0 c1 c2 c3 w0 k0) := by
  have h1 := back_a2 n i 0 line hart s0 k c0 c1 c2 c3 w0 k0 e0 e1 e2 e3 mk ml mf mt m0 m1 m2 m3 d0 d1 d2 d3 wr h d a
  simp only [bne_self_eq_false, cond_false] at h1
  exact ⟨.a2, _, _, _, _, h1⟩
theorem armD_a2_ok (n i : Nat) (line hart s0 k c0 c1 c2 c3 w0 k0 e0 e1 e2 e3 mk ml mf mt m0 m1 m2 m3 d0 d1 d2 d3 : Int) (wr h d a : Bool) : ∃ (st' : St) (y0 y1 y2 y3 : Int), runL (ctx tkΦ) (callK (ctx tkΦ) 30) 30 2 239 9 (keeps 9) (flat armD) (midF n (Int.ofNat i) line hart s0 k) (midH line hart .a2 d0 d1 d2 d3 (dB k wr e0 e1 e2 e3 mk ml mf mt m0 m1 m2 m3 h d a) (xB line hart s0 c0 c1 c2 c3 w0 k0)) leafM = GO n i line hart s0 k st' y0 y1 y2 y3 (dB k wr e0 e1 e2 e3 mk ml mf mt m0 m1 m2 m3 h d a) (xB line hart s0 c0 c1 c2 c3 w0 k0) := by
  rcases forms mk with rfl | rfl | rfl | rfl | rfl | rfl | rfl | rfl | rfl | rfl | ⟨u, rfl⟩ | ⟨u, rfl⟩
  · have h1 := armD_a2_0 n i 0 line hart s0 k c0 c1 c2 c3 w0 k0 e0 e1 e2 e3 0 ml mf mt m0 m1 m2 m3 d0 d1 d2 d3 wr h d a
    exact ⟨.a2, _, _, _, _, h1⟩
  · have h1 := armD_a2_1 n i 0 line hart s0 k c0 c1 c2 c3 w0 k0 e0 e1 e2 e3 0 ml mf mt m0 m1 m2 m3 d0 d1 d2 d3 wr h d a
    exact ⟨.a2, _, _, _, _, h1⟩
  · have h1 := armD_a2_2 n i 0 line hart s0 k c0 c1 c2 c3 w0 k0 e0 e1 e2 e3 0 ml mf mt m0 m1 m2 m3 d0 d1 d2 d3 wr h d a
    exact ⟨.a2, _, _, _, _, h1⟩
  · have h1 := armD_a2_3 n i 0 line hart s0 k c0 c1 c2 c3 w0 k0 e0 e1 e2 e3 0 ml mf mt m0 m1 m2 m3 d0 d1 d2 d3 wr h d a
    exact ⟨.a2, _, _, _, _, h1⟩
  · have h1 := armD_a2_4 n i 0 line hart s0 k c0 c1 c2 c3 w0 k0 e0 e1 e2 e3 0 ml mf mt m0 m1 m2 m3 d0 d1 d2 d3 wr h d a
    simp only [beq_self_eq_true, cond_true] at h1
    generalize T line hart 0 1 4 ml mf mt = b1 at h1
    cases b1 <;> exact ⟨.a2, _, _, _, _, h1⟩
  · have h1 := armD_a2_5 n i 0 line hart s0 k c0 c1 c2 c3 w0 k0 e0 e1 e2 e3 0 ml mf mt m0 m1 m2 m3 d0 d1 d2 d3 wr h d a
    simp only [beq_self_eq_true, cond_true] at h1
    generalize T line hart 0 1 5 ml mf mt = b1 at h1
    cases b1 <;> exact ⟨.a2, _, _, _, _, h1⟩
  · have h1 := armD_a2_6 n i 0 line hart s0 k c0 c1 c2 c3 w0 k0 e0 e1 e2 e3 0 ml mf mt m0 m1 m2 m3 d0 d1 d2 d3 wr h d a
    simp only [beq_self_eq_true, cond_true] at h1
    generalize T line hart 0 1 6 ml mf mt = b1 at h1
    cases b1 <;> exact ⟨.a2, _, _, _, _, h1⟩
  · have h1 := armD_a2_7 n i 0 line hart s0 k c0 c1 c2 c3 w0 k0 e0 e1 e2 e3 0 ml mf mt m0 m1 m2 m3 d0 d1 d2 d3 wr h d a
    simp only [beq_self_eq_true, cond_true] at h1
    generalize T line hart 0 1 7 ml mf mt = b1 at h1
    cases b1 <;> cases a <;> first | exact ⟨.a4, _, _, _, _, h1⟩ | exact ⟨.a5, _, _, _, _, h1⟩ | exact ⟨.a2, _, _, _, _, h1⟩
  · have h1 := armD_a2_8 n i 0 line hart s0 k c0 c1 c2 c3 w0 k0 e0 e1 e2 e3 0 ml mf mt m0 m1 m2 m3 d0 d1 d2 d3 wr h d a
    exact ⟨.a2, _, _, _, _, h1⟩
  · have h1 := armD_a2_9 n i 0 line hart s0 k c0 c1 c2 c3 w0 k0 e0 e1 e2 e3 0 ml mf mt m0 m1 m2 m3 d0 d1 d2 d3 wr h d a
    exact ⟨.a2, _, _, _, _, h1⟩
  · have h1 := armD_a2_big n i u line hart s0 k c0 c1 c2 c3 w0 k0 e0 e1 e2 e3 0 ml mf mt m0 m1 m2 m3 d0 d1 d2 d3 wr h d a
    exact ⟨.a2, _, _, _, _, h1⟩
  · have h1 := armD_a2_neg n i u line hart s0 k c0 c1 c2 c3 w0 k0 e0 e1 e2 e3 0 ml mf mt m0 m1 m2 m3 d0 d1 d2 d3 wr h d a
    exact ⟨.a2, _, _, _, _, h1⟩
theorem arm1_a6_ok (n i : Nat) (line hart s0 k c0 c1 c2 c3 w0 k0 e0 e1 e2 e3 mk ml mf mt m0 m1 m2 m3 d0 d1 d2 d3 : Int) (wr h d a : Bool) : ∃ (st' : St) (y0 y1 y2 y3 : Int), runL (ctx tkΦ) (callK (ctx tkΦ) 30) 30 2 239 9 (keeps 9) (flat arm1) (midF n (Int.ofNat i) line hart s0 k) (midH line hart .a6 d0 d1 d2 d3 (dB k wr e0 e1 e2 e3 mk ml mf mt m0 m1 m2 m3 h d a) (xB line hart s0 c0 c1 c2 c3 w0 k0)) leafM = GO n i line hart s0 k st' y0 y1 y2 y3 (dB k wr e0 e1 e2 e3 mk ml mf mt m0 m1 m2 m3 h d a) (xB line hart s0 c0 c1 c2 c3 w0 k0) := by
  have h1 := arm1_a6 n i 0 line hart s0 k c0 c1 c2 c3 w0 k0 e0 e1 e2 e3 mk ml mf mt m0 m1 m2 m3 d0 d1 d2 d3 wr h d a
  cases wr <;> exact ⟨.a6, _, _, _, _, h1⟩
theorem arm2_a6_ok (n i : Nat) (line hart s0 k c0 c1 c2 c3 w0 k0 e0 e1 e2 e3 mk ml mf mt m0 m1 m2 m3 d0 d1 d2 d3 : Int) (wr h d a : Bool) : ∃ (st' : St) (y0 y1 y2 y3 : Int), runL (ctx tkΦ) (callK (ctx tkΦ) 30) 30 2 239 9 (keeps 9) (flat arm2) (midF n (Int.ofNat i) line hart s0 k) (midH line hart .a6 d0 d1 d2 d3 (dB k wr e0 e1 e2 e3 mk ml mf mt m0 m1 m2 m3 h d a) (xB line hart s0 c0 c1 c2 c3 w0 k0)) leafM = GO n i line hart s0 k st' y0 y1 y2 y3 (dB k wr e0 e1 e2 e3 mk ml mf mt m0 m1 m2 m3 h d a) (xB line hart s0 c0 c1 c2 c3 w0 k0) := by
  have h1 := arm2_a6 n i 0 line hart s0 k c0 c1 c2 c3 w0 k0 e0 e1 e2 e3 mk ml mf mt m0 m1 m2 m3 d0 d1 d2 d3 wr h d a
  exact ⟨.a6, _, _, _, _, h1⟩
theorem arm3_a6_ok (n i : Nat) (line hart s0 k c0 c1 c2 c3 w0 k0 e0 e1 e2 e3 mk ml mf mt m0 m1 m2 m3 d0 d1 d2 d3 : Int) (wr h d a : Bool) : ∃ (st' : St) (y0 y1 y2 y3 : Int), runL (ctx tkΦ) (callK (ctx tkΦ) 30) 30 2 239 9 (keeps 9) (flat arm3) (midF n (Int.ofNat i) line hart s0 k) (midH line hart .a6 d0 d1 d2 d3 (dB k wr e0 e1 e2 e3 mk ml mf mt m0 m1 m2 m3 h d a) (xB line hart s0 c0 c1 c2 c3 w0 k0)) leafM = GO n i line hart s0 k st' y0 y1 y2 y3 (dB k wr e0 e1 e2 e3 mk ml mf mt m0 m1 m2 m3 h d a) (xB line hart s0 c0 c1 c2 c3 w0 k0) := by
  have h1 := arm3_a6 n i 0 line hart s0 k c0 c1 c2 c3 w0 k0 e0 e1 e2 e3 mk ml mf mt m0 m1 m2 m3 d0 d1 d2 d3 wr h d a
  exact ⟨.a6, _, _, _, _, h1⟩
theorem back_a6_ok (n i : Nat) (line hart s0 k c0 c1 c2 c3 w0 k0 e0 e1 e2 e3 mk ml mf mt m0 m1 m2 m3 d0 d1 d2 d3 : Int) (wr h d a : Bool) : ∃ (st' : St) (y0 y1 y2 y3 : Int), runL (ctx tkΦ) (callK (ctx tkΦ) 30) 30 2 239 9 (keeps 9) back (midF n (Int.ofNat i) line hart s0 k) (midH line hart .a6 d0 d1 d2 d3 (dB k wr e0 e1 e2 e3 mk ml mf mt m0 m1 m2 m3 h d a) (xB line hart s0 c0 c1 c2 c3 w0 k0)) leafM = GO n i line hart s0 k st' y0 y1 y2 y3 (dB k wr e0 e1 e2 e3 mk ml mf mt m0 m1 m2 m3 h d a) (xB line hart s0 c0 c1 c2 c3 w0 k0) := by
  have h1 := back_a6 n i 0 line hart s0 k c0 c1 c2 c3 w0 k0 e0 e1 e2 e3 mk ml mf mt m0 m1 m2 m3 d0 d1 d2 d3 wr h d a
  simp only [bne_self_eq_false, cond_false] at h1
  exact ⟨.a6, _, _, _, _, h1⟩
theorem armD_a6_ok (n i : Nat) (line hart s0 k c0 c1 c2 c3 w0 k0 e0 e1 e2 e3 mk ml mf mt m0 m1 m2 m3 d0 d1 d2 d3 : Int) (wr h d a : Bool) : ∃ (st' : St) (y0 y1 y2 y3 : Int), runL (ctx tkΦ) (callK (ctx tkΦ) 30) 30 2 239 9 (keeps 9) (flat armD) (midF n (Int.ofNat i) line hart s0 k) (midH line hart .a6 d0 d1 d2 d3 (dB k wr e0 e1 e2 e3 mk ml mf mt m0 m1 m2 m3 h d a) (xB line hart s0 c0 c1 c2 c3 w0 k0)) leafM = GO n i line hart s0 k st' y0 y1 y2 y3 (dB k wr e0 e1 e2 e3 mk ml mf mt m0 m1 m2 m3 h d a) (xB line hart s0 c0 c1 c2 c3 w0 k0) := by
  rcases forms mk with rfl | rfl | rfl | rfl | rfl | rfl | rfl | rfl | rfl | rfl | ⟨u, rfl⟩ | ⟨u, rfl⟩
  · have h1 := armD_a6_0 n i 0 line hart s0 k c0 c1 c2 c3 w0 k0 e0 e1 e2 e3 0 ml mf mt m0 m1 m2 m3 d0 d1 d2 d3 wr h d a
    exact ⟨.a6, _, _, _, _, h1⟩
  · have h1 := armD_a6_1 n i 0 line hart s0 k c0 c1 c2 c3 w0 k0 e0 e1 e2 e3 0 ml mf mt m0 m1 m2 m3 d0 d1 d2 d3 wr h d a
    exact ⟨.a6, _, _, _, _, h1⟩
  · have h1 := armD_a6_2 n i 0 line hart s0 k c0 c1 c2 c3 w0 k0 e0 e1 e2 e3 0 ml mf mt m0 m1 m2 m3 d0 d1 d2 d3 wr h d a
    exact ⟨.a6, _, _, _, _, h1⟩
  · have h1 := armD_a6_3 n i 0 line hart s0 k c0 c1 c2 c3 w0 k0 e0 e1 e2 e3 0 ml mf mt m0 m1 m2 m3 d0 d1 d2 d3 wr h d a
    exact ⟨.a6, _, _, _, _, h1⟩
  · have h1 := armD_a6_4 n i 0 line hart s0 k c0 c1 c2 c3 w0 k0 e0 e1 e2 e3 0 ml mf mt m0 m1 m2 m3 d0 d1 d2 d3 wr h d a
    simp only [beq_self_eq_true, cond_true] at h1
    generalize T line hart 0 3 4 ml mf mt = b1 at h1
    cases b1 <;> exact ⟨.a6, _, _, _, _, h1⟩
  · have h1 := armD_a6_5 n i 0 line hart s0 k c0 c1 c2 c3 w0 k0 e0 e1 e2 e3 0 ml mf mt m0 m1 m2 m3 d0 d1 d2 d3 wr h d a
    simp only [beq_self_eq_true, cond_true] at h1
    generalize T line hart 0 3 5 ml mf mt = b1 at h1
    cases b1 <;> first | exact ⟨.a10, _, _, _, _, h1⟩ | exact ⟨.a6, _, _, _, _, h1⟩
  · have h1 := armD_a6_6 n i 0 line hart s0 k c0 c1 c2 c3 w0 k0 e0 e1 e2 e3 0 ml mf mt m0 m1 m2 m3 d0 d1 d2 d3 wr h d a
    simp only [beq_self_eq_true, cond_true] at h1
    generalize T line hart 0 3 6 ml mf mt = b1 at h1
    cases b1 <;> first | exact ⟨.a11, _, _, _, _, h1⟩ | exact ⟨.a6, _, _, _, _, h1⟩
  · have h1 := armD_a6_7 n i 0 line hart s0 k c0 c1 c2 c3 w0 k0 e0 e1 e2 e3 0 ml mf mt m0 m1 m2 m3 d0 d1 d2 d3 wr h d a
    exact ⟨.a6, _, _, _, _, h1⟩
  · have h1 := armD_a6_8 n i 0 line hart s0 k c0 c1 c2 c3 w0 k0 e0 e1 e2 e3 0 ml mf mt m0 m1 m2 m3 d0 d1 d2 d3 wr h d a
    exact ⟨.a6, _, _, _, _, h1⟩
  · have h1 := armD_a6_9 n i 0 line hart s0 k c0 c1 c2 c3 w0 k0 e0 e1 e2 e3 0 ml mf mt m0 m1 m2 m3 d0 d1 d2 d3 wr h d a
    generalize T line hart 0 3 9 ml mf mt = b1 at h1
    cases b1 <;> first | exact ⟨.a0, _, _, _, _, h1⟩ | exact ⟨.a6, _, _, _, _, h1⟩
  · have h1 := armD_a6_big n i u line hart s0 k c0 c1 c2 c3 w0 k0 e0 e1 e2 e3 0 ml mf mt m0 m1 m2 m3 d0 d1 d2 d3 wr h d a
    exact ⟨.a6, _, _, _, _, h1⟩
  · have h1 := armD_a6_neg n i u line hart s0 k c0 c1 c2 c3 w0 k0 e0 e1 e2 e3 0 ml mf mt m0 m1 m2 m3 d0 d1 d2 d3 wr h d a
    exact ⟨.a6, _, _, _, _, h1⟩
theorem arm1_a10_ok (n i : Nat) (line hart s0 k c0 c1 c2 c3 w0 k0 e0 e1 e2 e3 mk ml mf mt m0 m1 m2 m3 d0 d1 d2 d3 : Int) (wr h d a : Bool) : ∃ (st' : St) (y0 y1 y2 y3 : Int), runL (ctx tkΦ) (callK (ctx tkΦ) 30) 30 2 239 9 (keeps 9) (flat arm1) (midF n (Int.ofNat i) line hart s0 k) (midH line hart .a10 d0 d1 d2 d3 (dB k wr e0 e1 e2 e3 mk ml mf mt m0 m1 m2 m3 h d a) (xB line hart s0 c0 c1 c2 c3 w0 k0)) leafM = GO n i line hart s0 k st' y0 y1 y2 y3 (dB k wr e0 e1 e2 e3 mk ml mf mt m0 m1 m2 m3 h d a) (xB line hart s0 c0 c1 c2 c3 w0 k0) := by
  have h1 := arm1_a10 n i 0 line hart s0 k c0 c1 c2 c3 w0 k0 e0 e1 e2 e3 mk ml mf mt m0 m1 m2 m3 d0 d1 d2 d3 wr h d a
  cases wr <;> exact ⟨.a10, _, _, _, _, h1⟩
theorem arm2_a10_ok (n i : Nat) (line hart s0 k c0 c1 c2 c3 w0 k0 e0 e1 e2 e3 mk ml mf mt m0 m1 m2 m3 d0 d1 d2 d3 : Int) (wr h d a : Bool) : ∃ (st' : St) (y0 y1 y2 y3 : Int), runL (ctx tkΦ) (callK (ctx tkΦ) 30) 30 2 239 9 (keeps 9) (flat arm2) (midF n (Int.ofNat i) line hart s0 k) (midH line hart .a10 d0 d1 d2 d3 (dB k wr e0 e1 e2 e3 mk ml mf mt m0 m1 m2 m3 h d a) (xB line hart s0 c0 c1 c2 c3 w0 k0)) leafM = GO n i line hart s0 k st' y0 y1 y2 y3 (dB k wr e0 e1 e2 e3 mk ml mf mt m0 m1 m2 m3 h d a) (xB line hart s0 c0 c1 c2 c3 w0 k0) := by
  have h1 := arm2_a10 n i 0 line hart s0 k c0 c1 c2 c3 w0 k0 e0 e1 e2 e3 mk ml mf mt m0 m1 m2 m3 d0 d1 d2 d3 wr h d a
  exact ⟨.a10, _, _, _, _, h1⟩
theorem arm3_a10_ok (n i : Nat) (line hart s0 k c0 c1 c2 c3 w0 k0 e0 e1 e2 e3 mk ml mf mt m0 m1 m2 m3 d0 d1 d2 d3 : Int) (wr h d a : Bool) : ∃ (st' : St) (y0 y1 y2 y3 : Int), runL (ctx tkΦ) (callK (ctx tkΦ) 30) 30 2 239 9 (keeps 9) (flat arm3) (midF n (Int.ofNat i) line hart s0 k) (midH line hart .a10 d0 d1 d2 d3 (dB k wr e0 e1 e2 e3 mk ml mf mt m0 m1 m2 m3 h d a) (xB line hart s0 c0 c1 c2 c3 w0 k0)) leafM = GO n i line hart s0 k st' y0 y1 y2 y3 (dB k wr e0 e1 e2 e3 mk ml mf mt m0 m1 m2 m3 h d a) (xB line hart s0 c0 c1 c2 c3 w0 k0) := by
  have h1 := arm3_a10 n i 0 line hart s0 k c0 c1 c2 c3 w0 k0 e0 e1 e2 e3 mk ml mf mt m0 m1 m2 m3 d0 d1 d2 d3 wr h d a
  exact ⟨.a10, _, _, _, _, h1⟩
theorem back_a10_ok (n i : Nat) (line hart s0 k c0 c1 c2 c3 w0 k0 e0 e1 e2 e3 mk ml mf mt m0 m1 m2 m3 d0 d1 d2 d3 : Int) (wr h d a : Bool) : ∃ (st' : St) (y0 y1 y2 y3 : Int), runL (ctx tkΦ) (callK (ctx tkΦ) 30) 30 2 239 9 (keeps 9) back (midF n (Int.ofNat i) line hart s0 k) (midH line hart .a10 d0 d1 d2 d3 (dB k wr e0 e1 e2 e3 mk ml mf mt m0 m1 m2 m3 h d a) (xB line hart s0 c0 c1 c2 c3 w0 k0)) leafM = GO n i line hart s0 k st' y0 y1 y2 y3 (dB k wr e0 e1 e2 e3 mk ml mf mt m0 m1 m2 m3 h d a) (xB line hart s0 c0 c1 c2 c3 w0 k0) := by
  have h1 := back_a10 n i 0 line hart s0 k c0 c1 c2 c3 w0 k0 e0 e1 e2 e3 mk ml mf mt m0 m1 m2 m3 d0 d1 d2 d3 wr h d a
  simp only [bne_self_eq_false, cond_false] at h1
  exact ⟨.a10, _, _, _, _, h1⟩
theorem armD_a10_ok (n i : Nat) (line hart s0 k c0 c1 c2 c3 w0 k0 e0 e1 e2 e3 mk ml mf mt m0 m1 m2 m3 d0 d1 d2 d3 : Int) (wr h d a : Bool) : ∃ (st' : St) (y0 y1 y2 y3 : Int), runL (ctx tkΦ) (callK (ctx tkΦ) 30) 30 2 239 9 (keeps 9) (flat armD) (midF n (Int.ofNat i) line hart s0 k) (midH line hart .a10 d0 d1 d2 d3 (dB k wr e0 e1 e2 e3 mk ml mf mt m0 m1 m2 m3 h d a) (xB line hart s0 c0 c1 c2 c3 w0 k0)) leafM = GO n i line hart s0 k st' y0 y1 y2 y3 (dB k wr e0 e1 e2 e3 mk ml mf mt m0 m1 m2 m3 h d a) (xB line hart s0 c0 c1 c2 c3 w0 k0) := by
  rcases forms mk with rfl | rfl | rfl | rfl | rfl | rfl | rfl | rfl | rfl | rfl | ⟨u, rfl⟩ | ⟨u, rfl⟩
  · have h1 := armD_a10_0 n i 0 line hart s0 k c0 c1 c2 c3 w0 k0 e0 e1 e2 e3 0 ml mf mt m0 m1 m2 m3 d0 d1 d2 d3 wr h d a
    exact ⟨.a10, _, _, _, _, h1⟩
  · have h1 := armD_a10_1 n i 0 line hart s0 k c0 c1 c2 c3 w0 k0 e0 e1 e2 e3 0 ml mf mt m0 m1 m2 m3 d0 d1 d2 d3 wr h d a
    exact ⟨.a10, _, _, _, _, h1⟩
  · have h1 := armD_a10_2 n i 0 line hart s0 k c0 c1 c2 c3 w0 k0 e0 e1 e2 e3 0 ml mf mt m0 m1 m2 m3 d0 d1 d2 d3 wr h d a
    exact ⟨.a10, _, _, _, _, h1⟩
  · have h1 := armD_a10_3 n i 0 line hart s0 k c0 c1 c2 c3 w0 k0 e0 e1 e2 e3 0 ml mf mt m0 m1 m2 m3 d0 d1 d2 d3 wr h d a
    exact ⟨.a10, _, _, _, _, h1⟩
  · have h1 := armD_a10_4 n i 0 line hart s0 k c0 c1 c2 c3 w0 k0 e0 e1 e2 e3 0 ml mf mt m0 m1 m2 m3 d0 d1 d2 d3 wr h d a
    simp only [beq_self_eq_true, cond_true] at h1
    generalize T line hart 0 3 4 ml mf mt = b1 at h1
    cases b1 <;> exact ⟨.a10, _, _, _, _, h1⟩
  · have h1 := armD_a10_5 n i 0 line hart s0 k c0 c1 c2 c3 w0 k0 e0 e1 e2 e3 0 ml mf mt m0 m1 m2 m3 d0 d1 d2 d3 wr h d a
    simp only [beq_self_eq_true, cond_true] at h1
    generalize T line hart 0 3 5 ml mf mt = b1 at h1
    cases b1 <;> exact ⟨.a10, _, _, _, _, h1⟩
  · have h1 := armD_a10_6 n i 0 line hart s0 k c0 c1 c2 c3 w0 k0 e0 e1 e2 e3 0 ml mf mt m0 m1 m2 m3 d0 d1 d2 d3 wr h d a
    simp only [beq_self_eq_true, cond_true] at h1
    generalize T line hart 0 3 6 ml mf mt = b1 at h1
    cases b1 <;> first | exact ⟨.a11, _, _, _, _, h1⟩ | exact ⟨.a10, _, _, _, _, h1⟩
  · have h1 := armD_a10_7 n i 0 line hart s0 k c0 c1 c2 c3 w0 k0 e0 e1 e2 e3 0 ml mf mt m0 m1 m2 m3 d0 d1 d2 d3 wr h d a
    exact ⟨.a10, _, _, _, _, h1⟩
  · have h1 := armD_a10_8 n i 0 line hart s0 k c0 c1 c2 c3 w0 k0 e0 e1 e2 e3 0 ml mf mt m0 m1 m2 m3 d0 d1 d2 d3 wr h d a
    exact ⟨.a10, _, _, _, _, h1⟩
  · have h1 := armD_a10_9 n i 0 line hart s0 k c0 c1 c2 c3 w0 k0 e0 e1 e2 e3 0 ml mf mt m0 m1 m2 m3 d0 d1 d2 d3 wr h d a
    generalize T line hart 0 3 9 ml mf mt = b1 at h1
    cases b1 <;> first | exact ⟨.a0, _, _, _, _, h1⟩ | exact ⟨.a10, _, _, _, _, h1⟩
  · have h1 := armD_a10_big n i u line hart s0 k c0 c1 c2 c3 w0 k0 e0 e1 e2 e3 0 ml mf mt m0 m1 m2 m3 d0 d1 d2 d3 wr h d a
    exact ⟨.a10, _, _, _, _, h1⟩
  · have h1 := armD_a10_neg n i u line hart s0 k c0 c1 c2 c3 w0 k0 e0 e1 e2 e3 0 ml mf mt m0 m1 m2 m3 d0 d1 d2 d3 wr h d a
    exact ⟨.a10, _, _, _, _, h1⟩
end Go.Proofs.Ytecmjcfhbedelaa.Ab.LP
