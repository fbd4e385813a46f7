/- CsrPlays: the law's code in pieces, and what is told between them. Laid by wip/ab/gen_cp.py. -/
import Derived.Test.YtcaohimipkoapaaCsrPlaysOrc
namespace Go.Proofs.Ytcaohimipkoapaa.Ab.CP
open Go Go.RowKit
set_option linter.unusedVariables false
set_option linter.unusedSimpArgs false
noncomputable def code : Code := match Try.f12.body with
  | some c => c
  | none => Code.skip
theorem code_eq : Try.f12.body = some code := by kernel_rfl
noncomputable def pre : List Code := (flat code).take 9
noncomputable def loopB : Code := match (flat code).drop 9 with
  | Code.block _ (Code.loop c) :: _ => c
  | _ => Code.skip
noncomputable def post : List Code := (flat code).drop 10
theorem code_pieces : flat code = pre ++ Code.block 0 (Code.loop loopB) :: post := by kernel_rfl
noncomputable def test : List Code := (flat loopB).take 2
noncomputable def inner : Code := match (flat loopB).drop 2 with
  | Code.block _ c :: _ => c
  | _ => Code.skip
noncomputable def next : List Code := (flat loopB).drop 3
theorem loop_pieces : flat loopB = test ++ Code.block 1 inner :: next := by kernel_rfl
noncomputable def front : List Code := (flat inner).take 4
noncomputable def way1 : Code := match (flat inner).drop 4 with
  | Code.block _ c :: _ => c
  | _ => Code.skip
noncomputable def back : List Code := (flat inner).drop 5
theorem inner_pieces : flat inner = front ++ Code.block 2 way1 :: back := by kernel_rfl
noncomputable def ask1 : Code := match way1 with
  | Code.seq x _ => x
  | _ => Code.skip
noncomputable def arm1 : Code := match way1 with
  | Code.seq _ (Code.cond _ x _) => x
  | _ => Code.skip
noncomputable def way2 : Code := match way1 with
  | Code.seq _ (Code.cond _ _ x) => x
  | _ => Code.skip
theorem way1_pieces : flat way1 = [ask1] ++ [Code.cond (.tmp 70) arm1 way2] := by kernel_rfl
noncomputable def ask2 : Code := match way2 with
  | Code.seq x _ => x
  | _ => Code.skip
noncomputable def arm2 : Code := match way2 with
  | Code.seq _ (Code.cond _ x _) => x
  | _ => Code.skip
noncomputable def way3 : Code := match way2 with
  | Code.seq _ (Code.cond _ _ x) => x
  | _ => Code.skip
theorem way2_pieces : flat way2 = [ask2] ++ [Code.cond (.tmp 83) arm2 way3] := by kernel_rfl
noncomputable def ask3 : Code := match way3 with
  | Code.seq x _ => x
  | _ => Code.skip
noncomputable def arm3 : Code := match way3 with
  | Code.seq _ (Code.cond _ x _) => x
  | _ => Code.skip
noncomputable def way4 : Code := match way3 with
  | Code.seq _ (Code.cond _ _ x) => x
  | _ => Code.skip
theorem way3_pieces : flat way3 = [ask3] ++ [Code.cond (.tmp 93) arm3 way4] := by kernel_rfl
noncomputable def ask4 : Code := match way4 with
  | Code.seq x _ => x
  | _ => Code.skip
noncomputable def arm4 : Code := match way4 with
  | Code.seq _ (Code.cond _ x _) => x
  | _ => Code.skip
noncomputable def armD : Code := match way4 with
  | Code.seq _ (Code.cond _ _ x) => x
  | _ => Code.skip
theorem way4_pieces : flat way4 = [ask4] ++ [Code.cond (.tmp 110) arm4 armD] := by kernel_rfl
theorem pre_draws : pre.all (drawsOK (drs 12)) = true := by kernel_rfl
theorem post_draws : post.all (drawsOK (drs 12)) = true := by kernel_rfl
theorem test_draws : test.all (drawsOK (drs 12)) = true := by kernel_rfl
theorem next_draws : next.all (drawsOK (drs 12)) = true := by kernel_rfl
theorem front_draws : front.all (drawsOK (drs 12)) = true := by kernel_rfl
theorem back_draws : back.all (drawsOK (drs 12)) = true := by kernel_rfl
theorem ask1_draws : [ask1].all (drawsOK (drs 12)) = true := by kernel_rfl
theorem ask2_draws : [ask2].all (drawsOK (drs 12)) = true := by kernel_rfl
theorem ask3_draws : [ask3].all (drawsOK (drs 12)) = true := by kernel_rfl
theorem ask4_draws : [ask4].all (drawsOK (drs 12)) = true := by kernel_rfl
theorem arm1_draws : (flat arm1).all (drawsOK (drs 12)) = true := by kernel_rfl
theorem arm2_draws : (flat arm2).all (drawsOK (drs 12)) = true := by kernel_rfl
theorem arm3_draws : (flat arm3).all (drawsOK (drs 12)) = true := by kernel_rfl
theorem arm4_draws : (flat arm4).all (drawsOK (drs 12)) = true := by kernel_rfl
theorem armD_draws : (flat armD).all (drawsOK (drs 12)) = true := by kernel_rfl
def wB (v0 v1 v2 v3 v4 v5 v6 v7 v8 v9 : Int) : Blk := { cells := [.int .u32 v0, .int .u32 v1, .int .u32 v2, .int .u32 v3, .int .u32 v4, .int .u32 v5, .int .u32 v6, .int .u32 v7, .int .u32 v8, .int .u32 v9], elem := 22 }
def dB (k nn vv ww pc : Int) : Blk := { cells := [.int .i64 k, .int .i64 nn, .int .u32 vv, .int .u32 ww, .int .u32 pc], elem := 59 }
def vB (k nn vv ww pc : Int) (i : Nat) : Blk := { cells := [.int .i64 k, .int .i64 nn, .int .u32 vv, .int .u32 ww, .int .u32 pc], elem := 59, view := some (0, i * 5) }
def sl (n : Nat) : Value := .slice (some ⟨0, 0, none⟩) n 5
def ten (b : Nat) : Value := .slice (some ⟨b, 0, none⟩) 10 1
def pt (b : Nat) : Value := .pointer (some ⟨b, 0, none⟩)
/-- The mode's number. -/
def md (u : Bool) : Int := bif u then 0 else 3
def headF (n : Nat) (j : Int) : Fr := [(1, sl n), (6, pt 2), (7, pt 3), (8, .int .i64 j)]
def midF (n : Nat) (j k : Int) : Fr := [(48, .int .i64 k), (1, sl n), (6, pt 2), (7, pt 3), (8, .int .i64 j), (9, pt 1), (10, pt 4), (11, ten 5)]
def headH (F X : Blk) : Heap := [none, none, some F, some X]
def midH (F X D C W : Blk) : Heap := [none, some D, some F, some X, some C, some W]
abbrev Slots := Exit × Option Value × Option Value × Option Value × Option Value × Option Value × Option Value × Option Value × Option Value
def slots (e : Exit) (F : Fr) : Slots := (e, F.get 48, F.get 1, F.get 6, F.get 7, F.get 8, F.get 9, F.get 10, F.get 11)
abbrev LeafM := Slots × Option (Option Blk) × Option (Option Blk) × Option (Option Blk) × Option (Option Blk) × Option (Option Blk)
def leafM (e : Exit) (F : Fr) (H : Heap) : Option (Option LeafM) := match e with
  | .ret => some none
  | e => some (some (slots e F, H[1]?, H[2]?, H[3]?, H[4]?, H[5]?))
def MO (n i : Nat) (k : Int) (F X D C W : Blk) : Option (Option LeafM) := some (some ((.normal, some (.int .i64 k), some (sl n), some (pt 2), some (pt 3), some (.int .i64 (Int.ofNat i)), some (pt 1), some (pt 4), some (ten 5)), some (some D), some (some F), some (some X), some (some C), some (some W)))
/-- Both files have the same. -/
def GO (n i : Nat) (k : Int) (u : Bool) (v0 v1 v2 v3 v4 v5 v6 v7 v8 v9 : Int) (D C W : Blk) : Option (Option LeafM) := MO n i k (fB u v0 v1 v2 v3 v4 v5 v6 v7 v8 v9) (xB (md u) v0 v1 v2 v3 v4 v5 v6 v7 v8 v9) D C W
/-- Behind the round's first part the copies lie elsewhere. -/
abbrev LeafN := Slots × Option (Option Blk) × Option (Option Blk) × Option (Option Blk) × Option (Option Blk) × Option (Option Blk)
def leafN (e : Exit) (F : Fr) (H : Heap) : Option LeafN := some (slots e F, H[2]?, H[3]?, H[4]?, H[5]?, H[6]?)
def NO (n i : Nat) (k : Int) (F X D C W : Blk) : Option LeafN := some ((.normal, some (.int .i64 k), some (sl n), some (pt 2), some (pt 3), some (.int .i64 (Int.ofNat i)), some (pt 4), some (pt 5), some (ten 6)), some (some F), some (some X), some (some D), some (some C), some (some W))
/-- .. and one slot more. -/
def leafT (t : Nat) (e : Exit) (F : Fr) (H : Heap) : Option (Option LeafM × Option Value) := match leafM e F H with
  | some x => some (x, F.get t)
  | none => none
def MT (n i : Nat) (k : Int) (F X D C W : Blk) (b : Bool) : Option (Option LeafM × Option Value) := match MO n i k F X D C W with
  | some x => some (x, some (.bool b))
  | none => none
abbrev LeafH := Exit × Option Value × Option Value × Option Value × Option Value × Option (Option Blk) × Option (Option Blk)
def leafH (e : Exit) (F : Fr) (H : Heap) : Option LeafH := some (e, F.get 1, F.get 6, F.get 7, F.get 8, H[2]?, H[3]?)
def HO (e : Exit) (n : Nat) (j : Int) (F X : Blk) : Option LeafH := some (e, some (sl n), some (pt 2), some (pt 3), some (.int .i64 j), some (some F), some (some X))
def less (i n : Nat) : Bool := decide (Int.ofNat i < Int.ofNat n)
def inside (i n : Nat) : Bool := true && (less i n && (i * 5).beq (0 + (Int.ofNat i).toNat * 5))
noncomputable abbrev run {α : Type} (Ψ : Oracle) (p : List Code) (F : Fr) (H : Heap) (leaf : Exit → Fr → Heap → Option α) : Option α := runL (ctx Ψ) (callK (ctx Ψ) 30) 30 2 158 12 (keeps 12) p F H leaf
theorem test_run (n i : Nat) (m v0 v1 v2 v3 v4 v5 v6 v7 v8 v9 : Int) (u : Bool) : run noΦ test (headF n (Int.ofNat i)) (headH (fB u v0 v1 v2 v3 v4 v5 v6 v7 v8 v9) (xB m v0 v1 v2 v3 v4 v5 v6 v7 v8 v9)) leafH =
  (bif less i n then HO .normal n (Int.ofNat i) (fB u v0 v1 v2 v3 v4 v5 v6 v7 v8 v9) (xB m v0 v1 v2 v3 v4 v5 v6 v7 v8 v9) else HO (.exit 0) n (Int.ofNat i) (fB u v0 v1 v2 v3 v4 v5 v6 v7 v8 v9) (xB m v0 v1 v2 v3 v4 v5 v6 v7 v8 v9)) := by kernel_rfl
theorem front_run (n i : Nat) (k nn vv ww pc m v0 v1 v2 v3 v4 v5 v6 v7 v8 v9 : Int) (u : Bool) : run noΦ front (headF n (Int.ofNat i)) [none, some (vB k nn vv ww pc i), some (fB u v0 v1 v2 v3 v4 v5 v6 v7 v8 v9), some (xB m v0 v1 v2 v3 v4 v5 v6 v7 v8 v9)] leafN =
  (bif inside i n then NO n i k (fB u v0 v1 v2 v3 v4 v5 v6 v7 v8 v9) (xB m v0 v1 v2 v3 v4 v5 v6 v7 v8 v9) (dB k nn vv ww pc) (fB u v0 v1 v2 v3 v4 v5 v6 v7 v8 v9) (wB v0 v1 v2 v3 v4 v5 v6 v7 v8 v9) else none) := by kernel_rfl
theorem ask1_run (n i : Nat) (k nn vv ww pc m v0 v1 v2 v3 v4 v5 v6 v7 v8 v9 c0 c1 c2 c3 c4 c5 c6 c7 c8 c9 : Int) (u cu : Bool) : run noΦ [ask1] (midF n (Int.ofNat i) k) (midH (fB u v0 v1 v2 v3 v4 v5 v6 v7 v8 v9) (xB m v0 v1 v2 v3 v4 v5 v6 v7 v8 v9) (dB k nn vv ww pc) (fB cu c0 c1 c2 c3 c4 c5 c6 c7 c8 c9) (wB c0 c1 c2 c3 c4 c5 c6 c7 c8 c9)) (leafT 70) =
  (bif k == 1 then MT n i k (fB u v0 v1 v2 v3 v4 v5 v6 v7 v8 v9) (xB m v0 v1 v2 v3 v4 v5 v6 v7 v8 v9) (dB k nn vv ww pc) (fB cu c0 c1 c2 c3 c4 c5 c6 c7 c8 c9) (wB c0 c1 c2 c3 c4 c5 c6 c7 c8 c9) true else MT n i k (fB u v0 v1 v2 v3 v4 v5 v6 v7 v8 v9) (xB m v0 v1 v2 v3 v4 v5 v6 v7 v8 v9) (dB k nn vv ww pc) (fB cu c0 c1 c2 c3 c4 c5 c6 c7 c8 c9) (wB c0 c1 c2 c3 c4 c5 c6 c7 c8 c9) false) := by kernel_rfl
theorem ask2_run (n i : Nat) (k nn vv ww pc m v0 v1 v2 v3 v4 v5 v6 v7 v8 v9 c0 c1 c2 c3 c4 c5 c6 c7 c8 c9 : Int) (u cu : Bool) : run noΦ [ask2] (midF n (Int.ofNat i) k) (midH (fB u v0 v1 v2 v3 v4 v5 v6 v7 v8 v9) (xB m v0 v1 v2 v3 v4 v5 v6 v7 v8 v9) (dB k nn vv ww pc) (fB cu c0 c1 c2 c3 c4 c5 c6 c7 c8 c9) (wB c0 c1 c2 c3 c4 c5 c6 c7 c8 c9)) (leafT 83) =
  (bif k == 2 then MT n i k (fB u v0 v1 v2 v3 v4 v5 v6 v7 v8 v9) (xB m v0 v1 v2 v3 v4 v5 v6 v7 v8 v9) (dB k nn vv ww pc) (fB cu c0 c1 c2 c3 c4 c5 c6 c7 c8 c9) (wB c0 c1 c2 c3 c4 c5 c6 c7 c8 c9) true else MT n i k (fB u v0 v1 v2 v3 v4 v5 v6 v7 v8 v9) (xB m v0 v1 v2 v3 v4 v5 v6 v7 v8 v9) (dB k nn vv ww pc) (fB cu c0 c1 c2 c3 c4 c5 c6 c7 c8 c9) (wB c0 c1 c2 c3 c4 c5 c6 c7 c8 c9) false) := by kernel_rfl
theorem ask3_run (n i : Nat) (k nn vv ww pc m v0 v1 v2 v3 v4 v5 v6 v7 v8 v9 c0 c1 c2 c3 c4 c5 c6 c7 c8 c9 : Int) (u cu : Bool) : run noΦ [ask3] (midF n (Int.ofNat i) k) (midH (fB u v0 v1 v2 v3 v4 v5 v6 v7 v8 v9) (xB m v0 v1 v2 v3 v4 v5 v6 v7 v8 v9) (dB k nn vv ww pc) (fB cu c0 c1 c2 c3 c4 c5 c6 c7 c8 c9) (wB c0 c1 c2 c3 c4 c5 c6 c7 c8 c9)) (leafT 93) =
  (bif k == 3 then MT n i k (fB u v0 v1 v2 v3 v4 v5 v6 v7 v8 v9) (xB m v0 v1 v2 v3 v4 v5 v6 v7 v8 v9) (dB k nn vv ww pc) (fB cu c0 c1 c2 c3 c4 c5 c6 c7 c8 c9) (wB c0 c1 c2 c3 c4 c5 c6 c7 c8 c9) true else MT n i k (fB u v0 v1 v2 v3 v4 v5 v6 v7 v8 v9) (xB m v0 v1 v2 v3 v4 v5 v6 v7 v8 v9) (dB k nn vv ww pc) (fB cu c0 c1 c2 c3 c4 c5 c6 c7 c8 c9) (wB c0 c1 c2 c3 c4 c5 c6 c7 c8 c9) false) := by kernel_rfl
theorem ask4_run (n i : Nat) (k nn vv ww pc m v0 v1 v2 v3 v4 v5 v6 v7 v8 v9 c0 c1 c2 c3 c4 c5 c6 c7 c8 c9 : Int) (u cu : Bool) : run noΦ [ask4] (midF n (Int.ofNat i) k) (midH (fB u v0 v1 v2 v3 v4 v5 v6 v7 v8 v9) (xB m v0 v1 v2 v3 v4 v5 v6 v7 v8 v9) (dB k nn vv ww pc) (fB cu c0 c1 c2 c3 c4 c5 c6 c7 c8 c9) (wB c0 c1 c2 c3 c4 c5 c6 c7 c8 c9)) (leafT 110) =
  (bif k == 4 then MT n i k (fB u v0 v1 v2 v3 v4 v5 v6 v7 v8 v9) (xB m v0 v1 v2 v3 v4 v5 v6 v7 v8 v9) (dB k nn vv ww pc) (fB cu c0 c1 c2 c3 c4 c5 c6 c7 c8 c9) (wB c0 c1 c2 c3 c4 c5 c6 c7 c8 c9) true else MT n i k (fB u v0 v1 v2 v3 v4 v5 v6 v7 v8 v9) (xB m v0 v1 v2 v3 v4 v5 v6 v7 v8 v9) (dB k nn vv ww pc) (fB cu c0 c1 c2 c3 c4 c5 c6 c7 c8 c9) (wB c0 c1 c2 c3 c4 c5 c6 c7 c8 c9) false) := by kernel_rfl
theorem next_run (n i : Nat) (k nn vv ww pc m v0 v1 v2 v3 v4 v5 v6 v7 v8 v9 c0 c1 c2 c3 c4 c5 c6 c7 c8 c9 : Int) (u cu : Bool) : run noΦ next (midF n (Int.ofNat i) k) (midH (fB u v0 v1 v2 v3 v4 v5 v6 v7 v8 v9) (xB m v0 v1 v2 v3 v4 v5 v6 v7 v8 v9) (dB k nn vv ww pc) (fB cu c0 c1 c2 c3 c4 c5 c6 c7 c8 c9) (wB c0 c1 c2 c3 c4 c5 c6 c7 c8 c9)) leafH =
  HO .normal n (IntKind.i64.wrap (Int.ofNat i + 1)) (fB u v0 v1 v2 v3 v4 v5 v6 v7 v8 v9) (xB m v0 v1 v2 v3 v4 v5 v6 v7 v8 v9) := by kernel_rfl
abbrev LeafP := Exit × Option Value × Option Value × Option Value × Option Value × Option Value × Option (Option Blk) × Option (Option Blk)
def leafP (e : Exit) (F : Fr) (H : Heap) : Option LeafP := some (e, F.get 4, F.get 1, F.get 6, F.get 7, F.get 8, H[5]?, H[8]?)
theorem ahead (n : Nat) (hart : Int) : run noΦ pre (enterF 0 [.int .i64 hart, sl n]) [none, none] leafP =
  (bif decide (Int.ofNat n > 60) then some (.ret, some (.bool true), some (sl n), none, none, none, none, none)
   else some (.normal, some (.bool false), some (sl n), some (pt 5), some (pt 8), some (.int .i64 (Int.ofNat 0)), some (some (fB false 0 0 0 0 0 0 0 0 0 (IntKind.u32.wrap hart))), some (some (xB 3 0 0 0 0 0 0 0 0 0 (IntKind.u32.wrap hart))))) := by kernel_rfl
theorem post_run (n : Nat) (j m v0 v1 v2 v3 v4 v5 v6 v7 v8 v9 : Int) (u : Bool) : run noΦ post (headF n j) (headH (fB u v0 v1 v2 v3 v4 v5 v6 v7 v8 v9) (xB m v0 v1 v2 v3 v4 v5 v6 v7 v8 v9)) (fun e F H => some (e, F.get 4)) = some (.ret, some (.bool true)) := by kernel_rfl
theorem nils (hart : Int) : callK (ctx noΦ) 30 0 12 [.int .i64 hart, .slice none 0 0] [] (fun v _ => some v) = some (.bool true) := by kernel_rfl
end Go.Proofs.Ytcaohimipkoapaa.Ab.CP
