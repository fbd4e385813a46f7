/- LonePlays: what a round's pieces come to, in every state. -/
import Derived.Test.YtecmjcfhbedelaaLonePlaysOk0
import Derived.Test.YtecmjcfhbedelaaLonePlaysOk1
import Derived.Test.YtecmjcfhbedelaaLonePlaysOk2
import Derived.Test.YtecmjcfhbedelaaLonePlaysOk3
namespace Go.Proofs.Ytecmjcfhbedelaa.Ab.LP
open Go Go.RowKit
set_option linter.unusedVariables false
theorem arm1_ok (st : St) (n i : Nat) (line hart s0 k c0 c1 c2 c3 w0 k0 e0 e1 e2 e3 mk ml mf mt m0 m1 m2 m3 d0 d1 d2 d3 : Int) (wr h d a : Bool) : ∃ (st' : St) (y0 y1 y2 y3 : Int), runL (ctx tkΦ) (callK (ctx tkΦ) 30) 30 2 239 9 (keeps 9) (flat arm1) (midF n (Int.ofNat i) line hart s0 k) (midH line hart st d0 d1 d2 d3 (dB k wr e0 e1 e2 e3 mk ml mf mt m0 m1 m2 m3 h d a) (xB line hart s0 c0 c1 c2 c3 w0 k0)) leafM = GO n i line hart s0 k st' y0 y1 y2 y3 (dB k wr e0 e1 e2 e3 mk ml mf mt m0 m1 m2 m3 h d a) (xB line hart s0 c0 c1 c2 c3 w0 k0) := by
  cases st
  · exact arm1_a0_ok n i line hart s0 k c0 c1 c2 c3 w0 k0 e0 e1 e2 e3 mk ml mf mt m0 m1 m2 m3 d0 d1 d2 d3 wr h d a
  · exact arm1_a1_ok n i line hart s0 k c0 c1 c2 c3 w0 k0 e0 e1 e2 e3 mk ml mf mt m0 m1 m2 m3 d0 d1 d2 d3 wr h d a
  · exact arm1_a2_ok n i line hart s0 k c0 c1 c2 c3 w0 k0 e0 e1 e2 e3 mk ml mf mt m0 m1 m2 m3 d0 d1 d2 d3 wr h d a
  · exact arm1_a3_ok n i line hart s0 k c0 c1 c2 c3 w0 k0 e0 e1 e2 e3 mk ml mf mt m0 m1 m2 m3 d0 d1 d2 d3 wr h d a
  · exact arm1_a4_ok n i line hart s0 k c0 c1 c2 c3 w0 k0 e0 e1 e2 e3 mk ml mf mt m0 m1 m2 m3 d0 d1 d2 d3 wr h d a
  · exact arm1_a5_ok n i line hart s0 k c0 c1 c2 c3 w0 k0 e0 e1 e2 e3 mk ml mf mt m0 m1 m2 m3 d0 d1 d2 d3 wr h d a
  · exact arm1_a6_ok n i line hart s0 k c0 c1 c2 c3 w0 k0 e0 e1 e2 e3 mk ml mf mt m0 m1 m2 m3 d0 d1 d2 d3 wr h d a
  · exact arm1_a7_ok n i line hart s0 k c0 c1 c2 c3 w0 k0 e0 e1 e2 e3 mk ml mf mt m0 m1 m2 m3 d0 d1 d2 d3 wr h d a
  · exact arm1_a8_ok n i line hart s0 k c0 c1 c2 c3 w0 k0 e0 e1 e2 e3 mk ml mf mt m0 m1 m2 m3 d0 d1 d2 d3 wr h d a
  · exact arm1_a9_ok n i line hart s0 k c0 c1 c2 c3 w0 k0 e0 e1 e2 e3 mk ml mf mt m0 m1 m2 m3 d0 d1 d2 d3 wr h d a
  · exact arm1_a10_ok n i line hart s0 k c0 c1 c2 c3 w0 k0 e0 e1 e2 e3 mk ml mf mt m0 m1 m2 m3 d0 d1 d2 d3 wr h d a
  · exact arm1_a11_ok n i line hart s0 k c0 c1 c2 c3 w0 k0 e0 e1 e2 e3 mk ml mf mt m0 m1 m2 m3 d0 d1 d2 d3 wr h d a
  · exact arm1_a12_ok n i line hart s0 k c0 c1 c2 c3 w0 k0 e0 e1 e2 e3 mk ml mf mt m0 m1 m2 m3 d0 d1 d2 d3 wr h d a
  · exact arm1_a13_ok n i line hart s0 k c0 c1 c2 c3 w0 k0 e0 e1 e2 e3 mk ml mf mt m0 m1 m2 m3 d0 d1 d2 d3 wr h d a
theorem arm2_ok (st : St) (n i : Nat) (line hart s0 k c0 c1 c2 c3 w0 k0 e0 e1 e2 e3 mk ml mf mt m0 m1 m2 m3 d0 d1 d2 d3 : Int) (wr h d a : Bool) : ∃ (st' : St) (y0 y1 y2 y3 : Int), runL (ctx tkΦ) (callK (ctx tkΦ) 30) 30 2 239 9 (keeps 9) (flat arm2) (midF n (Int.ofNat i) line hart s0 k) (midH line hart st d0 d1 d2 d3 (dB k wr e0 e1 e2 e3 mk ml mf mt m0 m1 m2 m3 h d a) (xB line hart s0 c0 c1 c2 c3 w0 k0)) leafM = GO n i line hart s0 k st' y0 y1 y2 y3 (dB k wr e0 e1 e2 e3 mk ml mf mt m0 m1 m2 m3 h d a) (xB line hart s0 c0 c1 c2 c3 w0 k0) := by
  cases st
  · exact arm2_a0_ok n i line hart s0 k c0 c1 c2 c3 w0 k0 e0 e1 e2 e3 mk ml mf mt m0 m1 m2 m3 d0 d1 d2 d3 wr h d a
  · exact arm2_a1_ok n i line hart s0 k c0 c1 c2 c3 w0 k0 e0 e1 e2 e3 mk ml mf mt m0 m1 m2 m3 d0 d1 d2 d3 wr h d a
  · exact arm2_a2_ok n i line hart s0 k c0 c1 c2 c3 w0 k0 e0 e1 e2 e3 mk ml mf mt m0 m1 m2 m3 d0 d1 d2 d3 wr h d a
  · exact arm2_a3_ok n i line hart s0 k c0 c1 c2 c3 w0 k0 e0 e1 e2 e3 mk ml mf mt m0 m1 m2 m3 d0 d1 d2 d3 wr h d a
  · exact arm2_a4_ok n i line hart s0 k c0 c1 c2 c3 w0 k0 e0 e1 e2 e3 mk ml mf mt m0 m1 m2 m3 d0 d1 d2 d3 wr h d a
  · exact arm2_a5_ok n i line hart s0 k c0 c1 c2 c3 w0 k0 e0 e1 e2 e3 mk ml mf mt m0 m1 m2 m3 d0 d1 d2 d3 wr h d a
  · exact arm2_a6_ok n i line hart s0 k c0 c1 c2 c3 w0 k0 e0 e1 e2 e3 mk ml mf mt m0 m1 m2 m3 d0 d1 d2 d3 wr h d a
  · exact arm2_a7_ok n i line hart s0 k c0 c1 c2 c3 w0 k0 e0 e1 e2 e3 mk ml mf mt m0 m1 m2 m3 d0 d1 d2 d3 wr h d a
  · exact arm2_a8_ok n i line hart s0 k c0 c1 c2 c3 w0 k0 e0 e1 e2 e3 mk ml mf mt m0 m1 m2 m3 d0 d1 d2 d3 wr h d a
  · exact arm2_a9_ok n i line hart s0 k c0 c1 c2 c3 w0 k0 e0 e1 e2 e3 mk ml mf mt m0 m1 m2 m3 d0 d1 d2 d3 wr h d a
  · exact arm2_a10_ok n i line hart s0 k c0 c1 c2 c3 w0 k0 e0 e1 e2 e3 mk ml mf mt m0 m1 m2 m3 d0 d1 d2 d3 wr h d a
  · exact arm2_a11_ok n i line hart s0 k c0 c1 c2 c3 w0 k0 e0 e1 e2 e3 mk ml mf mt m0 m1 m2 m3 d0 d1 d2 d3 wr h d a
  · exact arm2_a12_ok n i line hart s0 k c0 c1 c2 c3 w0 k0 e0 e1 e2 e3 mk ml mf mt m0 m1 m2 m3 d0 d1 d2 d3 wr h d a
  · exact arm2_a13_ok n i line hart s0 k c0 c1 c2 c3 w0 k0 e0 e1 e2 e3 mk ml mf mt m0 m1 m2 m3 d0 d1 d2 d3 wr h d a
theorem arm3_ok (st : St) (n i : Nat) (line hart s0 k c0 c1 c2 c3 w0 k0 e0 e1 e2 e3 mk ml mf mt m0 m1 m2 m3 d0 d1 d2 d3 : Int) (wr h d a : Bool) : ∃ (st' : St) (y0 y1 y2 y3 : Int), runL (ctx tkΦ) (callK (ctx tkΦ) 30) 30 2 239 9 (keeps 9) (flat arm3) (midF n (Int.ofNat i) line hart s0 k) (midH line hart st d0 d1 d2 d3 (dB k wr e0 e1 e2 e3 mk ml mf mt m0 m1 m2 m3 h d a) (xB line hart s0 c0 c1 c2 c3 w0 k0)) leafM = GO n i line hart s0 k st' y0 y1 y2 y3 (dB k wr e0 e1 e2 e3 mk ml mf mt m0 m1 m2 m3 h d a) (xB line hart s0 c0 c1 c2 c3 w0 k0) := by
  cases st
  · exact arm3_a0_ok n i line hart s0 k c0 c1 c2 c3 w0 k0 e0 e1 e2 e3 mk ml mf mt m0 m1 m2 m3 d0 d1 d2 d3 wr h d a
  · exact arm3_a1_ok n i line hart s0 k c0 c1 c2 c3 w0 k0 e0 e1 e2 e3 mk ml mf mt m0 m1 m2 m3 d0 d1 d2 d3 wr h d a
  · exact arm3_a2_ok n i line hart s0 k c0 c1 c2 c3 w0 k0 e0 e1 e2 e3 mk ml mf mt m0 m1 m2 m3 d0 d1 d2 d3 wr h d a
  · exact arm3_a3_ok n i line hart s0 k c0 c1 c2 c3 w0 k0 e0 e1 e2 e3 mk ml mf mt m0 m1 m2 m3 d0 d1 d2 d3 wr h d a
  · exact arm3_a4_ok n i line hart s0 k c0 c1 c2 c3 w0 k0 e0 e1 e2 e3 mk ml mf mt m0 m1 m2 m3 d0 d1 d2 d3 wr h d a
  · exact arm3_a5_ok n i line hart s0 k c0 c1 c2 c3 w0 k0 e0 e1 e2 e3 mk ml mf mt m0 m1 m2 m3 d0 d1 d2 d3 wr h d a
  · exact arm3_a6_ok n i line hart s0 k c0 c1 c2 c3 w0 k0 e0 e1 e2 e3 mk ml mf mt m0 m1 m2 m3 d0 d1 d2 d3 wr h d a
  · exact arm3_a7_ok n i line hart s0 k c0 c1 c2 c3 w0 k0 e0 e1 e2 e3 mk ml mf mt m0 m1 m2 m3 d0 d1 d2 d3 wr h d a
  · exact arm3_a8_ok n i line hart s0 k c0 c1 c2 c3 w0 k0 e0 e1 e2 e3 mk ml mf mt m0 m1 m2 m3 d0 d1 d2 d3 wr h d a
  · exact arm3_a9_ok n i line hart s0 k c0 c1 c2 c3 w0 k0 e0 e1 e2 e3 mk ml mf mt m0 m1 m2 m3 d0 d1 d2 d3 wr h d a
  · exact arm3_a10_ok n i line hart s0 k c0 c1 c2 c3 w0 k0 e0 e1 e2 e3 mk ml mf mt m0 m1 m2 m3 d0 d1 d2 d3 wr h d a
  · exact arm3_a11_ok n i line hart s0 k c0 c1 c2 c3 w0 k0 e0 e1 e2 e3 mk ml mf mt m0 m1 m2 m3 d0 d1 d2 d3 wr h d a
  · exact arm3_a12_ok n i line hart s0 k c0 c1 c2 c3 w0 k0 e0 e1 e2 e3 mk ml mf mt m0 m1 m2 m3 d0 d1 d2 d3 wr h d a
  · exact arm3_a13_ok n i line hart s0 k c0 c1 c2 c3 w0 k0 e0 e1 e2 e3 mk ml mf mt m0 m1 m2 m3 d0 d1 d2 d3 wr h d a
theorem back_ok (st : St) (n i : Nat) (line hart s0 k c0 c1 c2 c3 w0 k0 e0 e1 e2 e3 mk ml mf mt m0 m1 m2 m3 d0 d1 d2 d3 : Int) (wr h d a : Bool) : ∃ (st' : St) (y0 y1 y2 y3 : Int), runL (ctx tkΦ) (callK (ctx tkΦ) 30) 30 2 239 9 (keeps 9) back (midF n (Int.ofNat i) line hart s0 k) (midH line hart st d0 d1 d2 d3 (dB k wr e0 e1 e2 e3 mk ml mf mt m0 m1 m2 m3 h d a) (xB line hart s0 c0 c1 c2 c3 w0 k0)) leafM = GO n i line hart s0 k st' y0 y1 y2 y3 (dB k wr e0 e1 e2 e3 mk ml mf mt m0 m1 m2 m3 h d a) (xB line hart s0 c0 c1 c2 c3 w0 k0) := by
  cases st
  · exact back_a0_ok n i line hart s0 k c0 c1 c2 c3 w0 k0 e0 e1 e2 e3 mk ml mf mt m0 m1 m2 m3 d0 d1 d2 d3 wr h d a
  · exact back_a1_ok n i line hart s0 k c0 c1 c2 c3 w0 k0 e0 e1 e2 e3 mk ml mf mt m0 m1 m2 m3 d0 d1 d2 d3 wr h d a
  · exact back_a2_ok n i line hart s0 k c0 c1 c2 c3 w0 k0 e0 e1 e2 e3 mk ml mf mt m0 m1 m2 m3 d0 d1 d2 d3 wr h d a
  · exact back_a3_ok n i line hart s0 k c0 c1 c2 c3 w0 k0 e0 e1 e2 e3 mk ml mf mt m0 m1 m2 m3 d0 d1 d2 d3 wr h d a
  · exact back_a4_ok n i line hart s0 k c0 c1 c2 c3 w0 k0 e0 e1 e2 e3 mk ml mf mt m0 m1 m2 m3 d0 d1 d2 d3 wr h d a
  · exact back_a5_ok n i line hart s0 k c0 c1 c2 c3 w0 k0 e0 e1 e2 e3 mk ml mf mt m0 m1 m2 m3 d0 d1 d2 d3 wr h d a
  · exact back_a6_ok n i line hart s0 k c0 c1 c2 c3 w0 k0 e0 e1 e2 e3 mk ml mf mt m0 m1 m2 m3 d0 d1 d2 d3 wr h d a
  · exact back_a7_ok n i line hart s0 k c0 c1 c2 c3 w0 k0 e0 e1 e2 e3 mk ml mf mt m0 m1 m2 m3 d0 d1 d2 d3 wr h d a
  · exact back_a8_ok n i line hart s0 k c0 c1 c2 c3 w0 k0 e0 e1 e2 e3 mk ml mf mt m0 m1 m2 m3 d0 d1 d2 d3 wr h d a
  · exact back_a9_ok n i line hart s0 k c0 c1 c2 c3 w0 k0 e0 e1 e2 e3 mk ml mf mt m0 m1 m2 m3 d0 d1 d2 d3 wr h d a
  · exact back_a10_ok n i line hart s0 k c0 c1 c2 c3 w0 k0 e0 e1 e2 e3 mk ml mf mt m0 m1 m2 m3 d0 d1 d2 d3 wr h d a
  · exact back_a11_ok n i line hart s0 k c0 c1 c2 c3 w0 k0 e0 e1 e2 e3 mk ml mf mt m0 m1 m2 m3 d0 d1 d2 d3 wr h d a
  · exact back_a12_ok n i line hart s0 k c0 c1 c2 c3 w0 k0 e0 e1 e2 e3 mk ml mf mt m0 m1 m2 m3 d0 d1 d2 d3 wr h d a
  · exact back_a13_ok n i line hart s0 k c0 c1 c2 c3 w0 k0 e0 e1 e2 e3 mk ml mf mt m0 m1 m2 m3 d0 d1 d2 d3 wr h d a
theorem armD_ok (st : St) (n i : Nat) (line hart s0 k c0 c1 c2 c3 w0 k0 e0 e1 e2 e3 mk ml mf mt m0 m1 m2 m3 d0 d1 d2 d3 : Int) (wr h d a : Bool) : ∃ (st' : St) (y0 y1 y2 y3 : Int), runL (ctx tkΦ) (callK (ctx tkΦ) 30) 30 2 239 9 (keeps 9) (flat armD) (midF n (Int.ofNat i) line hart s0 k) (midH line hart st d0 d1 d2 d3 (dB k wr e0 e1 e2 e3 mk ml mf mt m0 m1 m2 m3 h d a) (xB line hart s0 c0 c1 c2 c3 w0 k0)) leafM = GO n i line hart s0 k st' y0 y1 y2 y3 (dB k wr e0 e1 e2 e3 mk ml mf mt m0 m1 m2 m3 h d a) (xB line hart s0 c0 c1 c2 c3 w0 k0) := by
  cases st
  · exact armD_a0_ok n i line hart s0 k c0 c1 c2 c3 w0 k0 e0 e1 e2 e3 mk ml mf mt m0 m1 m2 m3 d0 d1 d2 d3 wr h d a
  · exact armD_a1_ok n i line hart s0 k c0 c1 c2 c3 w0 k0 e0 e1 e2 e3 mk ml mf mt m0 m1 m2 m3 d0 d1 d2 d3 wr h d a
  · exact armD_a2_ok n i line hart s0 k c0 c1 c2 c3 w0 k0 e0 e1 e2 e3 mk ml mf mt m0 m1 m2 m3 d0 d1 d2 d3 wr h d a
  · exact armD_a3_ok n i line hart s0 k c0 c1 c2 c3 w0 k0 e0 e1 e2 e3 mk ml mf mt m0 m1 m2 m3 d0 d1 d2 d3 wr h d a
  · exact armD_a4_ok n i line hart s0 k c0 c1 c2 c3 w0 k0 e0 e1 e2 e3 mk ml mf mt m0 m1 m2 m3 d0 d1 d2 d3 wr h d a
  · exact armD_a5_ok n i line hart s0 k c0 c1 c2 c3 w0 k0 e0 e1 e2 e3 mk ml mf mt m0 m1 m2 m3 d0 d1 d2 d3 wr h d a
  · exact armD_a6_ok n i line hart s0 k c0 c1 c2 c3 w0 k0 e0 e1 e2 e3 mk ml mf mt m0 m1 m2 m3 d0 d1 d2 d3 wr h d a
  · exact armD_a7_ok n i line hart s0 k c0 c1 c2 c3 w0 k0 e0 e1 e2 e3 mk ml mf mt m0 m1 m2 m3 d0 d1 d2 d3 wr h d a
  · exact armD_a8_ok n i line hart s0 k c0 c1 c2 c3 w0 k0 e0 e1 e2 e3 mk ml mf mt m0 m1 m2 m3 d0 d1 d2 d3 wr h d a
  · exact armD_a9_ok n i line hart s0 k c0 c1 c2 c3 w0 k0 e0 e1 e2 e3 mk ml mf mt m0 m1 m2 m3 d0 d1 d2 d3 wr h d a
  · exact armD_a10_ok n i line hart s0 k c0 c1 c2 c3 w0 k0 e0 e1 e2 e3 mk ml mf mt m0 m1 m2 m3 d0 d1 d2 d3 wr h d a
  · exact armD_a11_ok n i line hart s0 k c0 c1 c2 c3 w0 k0 e0 e1 e2 e3 mk ml mf mt m0 m1 m2 m3 d0 d1 d2 d3 wr h d a
  · exact armD_a12_ok n i line hart s0 k c0 c1 c2 c3 w0 k0 e0 e1 e2 e3 mk ml mf mt m0 m1 m2 m3 d0 d1 d2 d3 wr h d a
  · exact armD_a13_ok n i line hart s0 k c0 c1 c2 c3 w0 k0 e0 e1 e2 e3 mk ml mf mt m0 m1 m2 m3 d0 d1 d2 d3 wr h d a
end Go.Proofs.Ytecmjcfhbedelaa.Ab.LP
