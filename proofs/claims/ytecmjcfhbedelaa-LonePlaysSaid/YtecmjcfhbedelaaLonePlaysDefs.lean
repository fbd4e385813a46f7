/- LonePlays: the law's code in pieces, and what is told between them. -/
import Derived.Test.YtecmjcfhbedelaaLonePlaysOrc
namespace Go.Proofs.Ytecmjcfhbedelaa.Ab.LP
open Go Go.RowKit
set_option linter.unusedVariables false
set_option linter.unusedSimpArgs false
noncomputable def code : Code := match Try.f9.body with
  | some c => c
  | none => Code.skip
theorem code_eq : Try.f9.body = some code := by kernel_rfl
noncomputable def pre : List Code := (flat code).take 11
noncomputable def loopB : Code := match (flat code).drop 11 with
  | Code.block _ (Code.loop c) :: _ => c
  | _ => Code.skip
noncomputable def post : List Code := (flat code).drop 12
theorem code_pieces : flat code = pre ++ Code.block 0 (Code.loop loopB) :: post := by kernel_rfl
noncomputable def test : List Code := (flat loopB).take 2
noncomputable def inner : Code := match (flat loopB).drop 2 with
  | Code.block _ c :: _ => c
  | _ => Code.skip
noncomputable def next : List Code := (flat loopB).drop 3
theorem loop_pieces : flat loopB = test ++ Code.block 1 inner :: next := by kernel_rfl
noncomputable def front : List Code := (flat inner).take 4
noncomputable def ways : Code := match (flat inner).drop 4 with
  | Code.block _ c :: _ => c
  | _ => Code.skip
noncomputable def back : List Code := (flat inner).drop 5
theorem inner_pieces : flat inner = front ++ Code.block 2 ways :: back := by kernel_rfl
noncomputable def ask1 : Code := match ways with
  | Code.seq x _ => x
  | _ => Code.skip
noncomputable def arm1 : Code := match ways with
  | Code.seq _ (Code.cond _ x _) => x
  | _ => Code.skip
noncomputable def ways2 : Code := match ways with
  | Code.seq _ (Code.cond _ _ x) => x
  | _ => Code.skip
theorem ways_pieces : flat ways = [ask1] ++ [Code.cond (.tmp 100) arm1 ways2] := by kernel_rfl
noncomputable def ask2 : Code := match ways2 with
  | Code.seq x _ => x
  | _ => Code.skip
noncomputable def arm2 : Code := match ways2 with
  | Code.seq _ (Code.cond _ x _) => x
  | _ => Code.skip
noncomputable def ways3 : Code := match ways2 with
  | Code.seq _ (Code.cond _ _ x) => x
  | _ => Code.skip
theorem ways2_pieces : flat ways2 = [ask2] ++ [Code.cond (.tmp 125) arm2 ways3] := by kernel_rfl
noncomputable def ask3 : Code := match ways3 with
  | Code.seq x _ => x
  | _ => Code.skip
noncomputable def arm3 : Code := match ways3 with
  | Code.seq _ (Code.cond _ x _) => x
  | _ => Code.skip
noncomputable def armD : Code := match ways3 with
  | Code.seq _ (Code.cond _ _ x) => x
  | _ => Code.skip
theorem ways3_pieces : flat ways3 = [ask3] ++ [Code.cond (.tmp 146) arm3 armD] := by kernel_rfl
theorem pre_draws : pre.all (drawsOK ((ctx tkΦ).dr 9)) = true := by kernel_rfl
theorem post_draws : post.all (drawsOK ((ctx tkΦ).dr 9)) = true := by kernel_rfl
theorem test_draws : test.all (drawsOK ((ctx tkΦ).dr 9)) = true := by kernel_rfl
theorem next_draws : next.all (drawsOK ((ctx tkΦ).dr 9)) = true := by kernel_rfl
theorem front_draws : front.all (drawsOK ((ctx tkΦ).dr 9)) = true := by kernel_rfl
theorem back_draws : back.all (drawsOK ((ctx tkΦ).dr 9)) = true := by kernel_rfl
theorem ask1_draws : [ask1].all (drawsOK ((ctx tkΦ).dr 9)) = true := by kernel_rfl
theorem ask2_draws : [ask2].all (drawsOK ((ctx tkΦ).dr 9)) = true := by kernel_rfl
theorem ask3_draws : [ask3].all (drawsOK ((ctx tkΦ).dr 9)) = true := by kernel_rfl
theorem arm1_draws : (flat arm1).all (drawsOK ((ctx tkΦ).dr 9)) = true := by kernel_rfl
theorem arm2_draws : (flat arm2).all (drawsOK ((ctx tkΦ).dr 9)) = true := by kernel_rfl
theorem arm3_draws : (flat arm3).all (drawsOK ((ctx tkΦ).dr 9)) = true := by kernel_rfl
theorem armD_draws : (flat armD).all (drawsOK ((ctx tkΦ).dr 9)) = true := by kernel_rfl
/-- The states in which a round begins: state, waits, kept. -/
inductive St
  | a0 | a1 | a2 | a3 | a4 | a5 | a6 | a7 | a8 | a9 | a10 | a11 | a12 | a13
def St.s : St → Int
  | .a0 => 0
  | .a1 => 0
  | .a2 => 0
  | .a3 => 4
  | .a4 => 2
  | .a5 => 1
  | .a6 => 0
  | .a7 => 3
  | .a8 => 0
  | .a9 => 1
  | .a10 => 0
  | .a11 => 0
  | .a12 => 3
  | .a13 => 0
def St.wt : St → Int
  | .a0 => 0
  | .a1 => 2
  | .a2 => 1
  | .a3 => 0
  | .a4 => 0
  | .a5 => 0
  | .a6 => 3
  | .a7 => 0
  | .a8 => 3
  | .a9 => 2
  | .a10 => 3
  | .a11 => 3
  | .a12 => 2
  | .a13 => 3
def St.kp : St → Int
  | .a0 => 0
  | .a1 => 0
  | .a2 => 0
  | .a3 => 0
  | .a4 => 0
  | .a5 => 0
  | .a6 => 4
  | .a7 => 0
  | .a8 => 2
  | .a9 => 0
  | .a10 => 3
  | .a11 => 0
  | .a12 => 0
  | .a13 => 1
def St.x (line hart d0 d1 d2 d3 : Int) (st : St) : Blk := xB line hart st.s d0 d1 d2 d3 st.wt st.kp
def St.y (line hart d0 d1 d2 d3 : Int) (st : St) : Blk := yB line hart st.s d0 d1 d2 d3 st.wt st.kp
def dB (k : Int) (wr : Bool) (e0 e1 e2 e3 mk ml mf mt m0 m1 m2 m3 : Int) (h d a : Bool) : Blk := { cells := [.int .i64 k, .bool wr, .int .u32 e0, .int .u32 e1, .int .u32 e2, .int .u32 e3, .int .i64 mk, .int .i64 ml, .int .i64 mf, .int .i64 mt, .int .u32 m0, .int .u32 m1, .int .u32 m2, .int .u32 m3, .bool h, .bool d, .bool a], elem := 32 }
def vB (k : Int) (wr : Bool) (e0 e1 e2 e3 mk ml mf mt m0 m1 m2 m3 : Int) (h d a : Bool) (i : Nat) : Blk := { cells := [.int .i64 k, .bool wr, .int .u32 e0, .int .u32 e1, .int .u32 e2, .int .u32 e3, .int .i64 mk, .int .i64 ml, .int .i64 mf, .int .i64 mt, .int .u32 m0, .int .u32 m1, .int .u32 m2, .int .u32 m3, .bool h, .bool d, .bool a], elem := 32, view := some (0, i * 17) }
def sl (n : Nat) : Value := .slice (some ⟨0, 0, none⟩) n 17
def pt (b : Nat) : Value := .pointer (some ⟨b, 0, none⟩)
def headF (n : Nat) (j line hart : Int) : Fr := [(0, .int .i64 line), (1, .int .i64 hart), (2, sl n), (8, pt 2), (9, pt 3), (10, .int .i64 j)]
def midF (n : Nat) (j line hart was k : Int) : Fr := [(65, .int .i64 k), (0, .int .i64 line), (1, .int .i64 hart), (2, sl n), (8, pt 2), (9, pt 3), (10, .int .i64 j), (11, pt 4), (12, pt 5), (13, .int .i64 was)]
def midH (line hart : Int) (st : St) (d0 d1 d2 d3 : Int) (D C : Blk) : Heap := [none, none, some (st.x line hart d0 d1 d2 d3), some (st.y line hart d0 d1 d2 d3), some D, some C]
abbrev LeafM := Exit × Option Value × Option Value × Option Value × Option Value × Option Value × Option Value × Option Value × Option Value × Option Value × Option Value × Option (Option Blk) × Option (Option Blk) × Option (Option Blk) × Option (Option Blk)
def leafM (e : Exit) (F : Fr) (H : Heap) : Option (Option LeafM) := match e with
  | .ret => some none
  | e => some (some (e, F.get 0, F.get 1, F.get 2, F.get 8, F.get 9, F.get 10, F.get 11, F.get 12, F.get 13, F.get 65, H[2]?, H[3]?, H[4]?, H[5]?))
def MO (n i : Nat) (line hart was k : Int) (X Y D C : Blk) : Option (Option LeafM) := some (some (.normal, some (.int .i64 line), some (.int .i64 hart), some (sl n), some (pt 2), some (pt 3), some (.int .i64 (Int.ofNat i)), some (pt 4), some (pt 5), some (.int .i64 was), some (.int .i64 k), some (some X), some (some Y), some (some D), some (some C)))
def GO (n i : Nat) (line hart was k : Int) (st : St) (d0 d1 d2 d3 : Int) (D C : Blk) : Option (Option LeafM) := MO n i line hart was k (st.x line hart d0 d1 d2 d3) (st.y line hart d0 d1 d2 d3) D C
/-- .. and one slot more. -/
def leafT (t : Nat) (e : Exit) (F : Fr) (H : Heap) : Option (Option LeafM × Option Value) := match leafM e F H with
  | some x => some (x, F.get t)
  | none => none
def MT (n i : Nat) (line hart was k : Int) (X Y D C : Blk) (b : Bool) : Option (Option LeafM × Option Value) := match MO n i line hart was k X Y D C with
  | some x => some (x, some (.bool b))
  | none => none
abbrev LeafH := Exit × Option Value × Option Value × Option Value × Option Value × Option Value × Option Value × Option (Option Blk) × Option (Option Blk)
def leafH (e : Exit) (F : Fr) (H : Heap) : Option LeafH := some (e, F.get 0, F.get 1, F.get 2, F.get 8, F.get 9, F.get 10, H[2]?, H[3]?)
def HO (e : Exit) (n : Nat) (j line hart : Int) (X Y : Blk) : Option LeafH := some (e, some (.int .i64 line), some (.int .i64 hart), some (sl n), some (pt 2), some (pt 3), some (.int .i64 j), some (some X), some (some Y))
def less (i n : Nat) : Bool := decide (Int.ofNat i < Int.ofNat n)
def inside (i n : Nat) : Bool := true && (less i n && (i * 17).beq (0 + (Int.ofNat i).toNat * 17))
theorem test_run (n i : Nat) (line hart s d0 d1 d2 d3 wt kp : Int) : runL (ctx tkΦ) (callK (ctx tkΦ) 30) 30 2 239 9 (keeps 9) test (headF n (Int.ofNat i) line hart) [none, none, some (xB line hart s d0 d1 d2 d3 wt kp), some (yB line hart s d0 d1 d2 d3 wt kp)] leafH =
  (bif less i n then HO .normal n (Int.ofNat i) line hart (xB line hart s d0 d1 d2 d3 wt kp) (yB line hart s d0 d1 d2 d3 wt kp) else HO (.exit 0) n (Int.ofNat i) line hart (xB line hart s d0 d1 d2 d3 wt kp) (yB line hart s d0 d1 d2 d3 wt kp)) := by kernel_rfl
theorem front_run (n i : Nat) (line hart s d0 d1 d2 d3 wt kp k e0 e1 e2 e3 mk ml mf mt m0 m1 m2 m3 : Int) (wr h d a : Bool) : runL (ctx tkΦ) (callK (ctx tkΦ) 30) 30 2 239 9 (keeps 9) front (headF n (Int.ofNat i) line hart) [none, some (vB k wr e0 e1 e2 e3 mk ml mf mt m0 m1 m2 m3 h d a i), some (xB line hart s d0 d1 d2 d3 wt kp), some (yB line hart s d0 d1 d2 d3 wt kp)] leafM =
  (bif inside i n then MO n i line hart s k (xB line hart s d0 d1 d2 d3 wt kp) (yB line hart s d0 d1 d2 d3 wt kp) (dB k wr e0 e1 e2 e3 mk ml mf mt m0 m1 m2 m3 h d a) (xB line hart s d0 d1 d2 d3 wt kp) else none) := by kernel_rfl
theorem ask1_run (n i : Nat) (line hart s d0 d1 d2 d3 wt kp k e0 e1 e2 e3 mk ml mf mt m0 m1 m2 m3 s0 c0 c1 c2 c3 w0 k0 : Int) (wr h d a : Bool) : runL (ctx tkΦ) (callK (ctx tkΦ) 30) 30 2 239 9 (keeps 9) [ask1] (midF n (Int.ofNat i) line hart s0 k) [none, none, some (xB line hart s d0 d1 d2 d3 wt kp), some (yB line hart s d0 d1 d2 d3 wt kp), some (dB k wr e0 e1 e2 e3 mk ml mf mt m0 m1 m2 m3 h d a), some (xB line hart s0 c0 c1 c2 c3 w0 k0)] (leafT 100) =
  (bif k == 1 then MT n i line hart s0 k (xB line hart s d0 d1 d2 d3 wt kp) (yB line hart s d0 d1 d2 d3 wt kp) (dB k wr e0 e1 e2 e3 mk ml mf mt m0 m1 m2 m3 h d a) (xB line hart s0 c0 c1 c2 c3 w0 k0) true else MT n i line hart s0 k (xB line hart s d0 d1 d2 d3 wt kp) (yB line hart s d0 d1 d2 d3 wt kp) (dB k wr e0 e1 e2 e3 mk ml mf mt m0 m1 m2 m3 h d a) (xB line hart s0 c0 c1 c2 c3 w0 k0) false) := by kernel_rfl
theorem ask2_run (n i : Nat) (line hart s d0 d1 d2 d3 wt kp k e0 e1 e2 e3 mk ml mf mt m0 m1 m2 m3 s0 c0 c1 c2 c3 w0 k0 : Int) (wr h d a : Bool) : runL (ctx tkΦ) (callK (ctx tkΦ) 30) 30 2 239 9 (keeps 9) [ask2] (midF n (Int.ofNat i) line hart s0 k) [none, none, some (xB line hart s d0 d1 d2 d3 wt kp), some (yB line hart s d0 d1 d2 d3 wt kp), some (dB k wr e0 e1 e2 e3 mk ml mf mt m0 m1 m2 m3 h d a), some (xB line hart s0 c0 c1 c2 c3 w0 k0)] (leafT 125) =
  (bif k == 2 then MT n i line hart s0 k (xB line hart s d0 d1 d2 d3 wt kp) (yB line hart s d0 d1 d2 d3 wt kp) (dB k wr e0 e1 e2 e3 mk ml mf mt m0 m1 m2 m3 h d a) (xB line hart s0 c0 c1 c2 c3 w0 k0) true else MT n i line hart s0 k (xB line hart s d0 d1 d2 d3 wt kp) (yB line hart s d0 d1 d2 d3 wt kp) (dB k wr e0 e1 e2 e3 mk ml mf mt m0 m1 m2 m3 h d a) (xB line hart s0 c0 c1 c2 c3 w0 k0) false) := by kernel_rfl
theorem ask3_run (n i : Nat) (line hart s d0 d1 d2 d3 wt kp k e0 e1 e2 e3 mk ml mf mt m0 m1 m2 m3 s0 c0 c1 c2 c3 w0 k0 : Int) (wr h d a : Bool) : runL (ctx tkΦ) (callK (ctx tkΦ) 30) 30 2 239 9 (keeps 9) [ask3] (midF n (Int.ofNat i) line hart s0 k) [none, none, some (xB line hart s d0 d1 d2 d3 wt kp), some (yB line hart s d0 d1 d2 d3 wt kp), some (dB k wr e0 e1 e2 e3 mk ml mf mt m0 m1 m2 m3 h d a), some (xB line hart s0 c0 c1 c2 c3 w0 k0)] (leafT 146) =
  (bif k == 3 then MT n i line hart s0 k (xB line hart s d0 d1 d2 d3 wt kp) (yB line hart s d0 d1 d2 d3 wt kp) (dB k wr e0 e1 e2 e3 mk ml mf mt m0 m1 m2 m3 h d a) (xB line hart s0 c0 c1 c2 c3 w0 k0) true else MT n i line hart s0 k (xB line hart s d0 d1 d2 d3 wt kp) (yB line hart s d0 d1 d2 d3 wt kp) (dB k wr e0 e1 e2 e3 mk ml mf mt m0 m1 m2 m3 h d a) (xB line hart s0 c0 c1 c2 c3 w0 k0) false) := by kernel_rfl
theorem next_run (n i : Nat) (line hart s d0 d1 d2 d3 wt kp k s0 c0 c1 c2 c3 w0 k0 e0 e1 e2 e3 mk ml mf mt m0 m1 m2 m3 : Int) (wr h d a : Bool) : runL (ctx tkΦ) (callK (ctx tkΦ) 30) 30 2 239 9 (keeps 9) next (midF n (Int.ofNat i) line hart s0 k) [none, none, some (xB line hart s d0 d1 d2 d3 wt kp), some (yB line hart s d0 d1 d2 d3 wt kp), some (dB k wr e0 e1 e2 e3 mk ml mf mt m0 m1 m2 m3 h d a), some (xB line hart s0 c0 c1 c2 c3 w0 k0)] leafH =
  HO .normal n (IntKind.i64.wrap (Int.ofNat i + 1)) line hart (xB line hart s d0 d1 d2 d3 wt kp) (yB line hart s d0 d1 d2 d3 wt kp) := by kernel_rfl
abbrev LeafP := Exit × Option Value × Option Value × Option Value × Option Value × Option Value × Option Value × Option Value × Option (Option Blk) × Option (Option Blk)
def leafP (e : Exit) (F : Fr) (H : Heap) : Option LeafP := some (e, F.get 6, F.get 0, F.get 1, F.get 2, F.get 8, F.get 9, F.get 10, H[18]?, H[19]?)
theorem ahead (n : Nat) (line hart : Int) : runL (ctx tkΦ) (callK (ctx tkΦ) 30) 30 2 239 9 (keeps 9) pre (enterF 0 [.int .i64 line, .int .i64 hart, sl n]) [none, none] leafP =
  (bif decide (Int.ofNat n > 80) then some (.ret, some (.bool true), some (.int .i64 line), some (.int .i64 hart), some (sl n), none, none, none, none, none)
   else some (.normal, some (.bool false), some (.int .i64 line), some (.int .i64 hart), some (sl n), some (pt 18), some (pt 19), some (.int .i64 (Int.ofNat 0)), some (some (St.x line hart 0 0 0 0 .a0)), some (some (St.y line hart 0 0 0 0 .a0)))) := by kernel_rfl
theorem post_run (n : Nat) (j line hart s d0 d1 d2 d3 wt kp : Int) : runL (ctx tkΦ) (callK (ctx tkΦ) 30) 30 2 239 9 (keeps 9) post (headF n j line hart) [none, none, some (xB line hart s d0 d1 d2 d3 wt kp), some (yB line hart s d0 d1 d2 d3 wt kp)] (fun e F H => some (e, F.get 6)) = some (.ret, some (.bool true)) := by kernel_rfl
theorem nils (line hart : Int) : callK (ctx tkΦ) 30 0 9 [.int .i64 line, .int .i64 hart, .slice none 0 0] [] (fun v _ => some v) = some (.bool true) := by kernel_rfl
end Go.Proofs.Ytecmjcfhbedelaa.Ab.LP
