/- DepGrows: the runs of its pieces. Written by gen_grows.py. -/
import Derived.Test.YtbcikaoklpekhaaDepCopy2
import Derived.Test.YtbcikaoklpekhaaAb21
namespace Go.Proofs.Ytbcikaoklpekhaa.Ab
open Go Go.RowKit
set_option linter.unusedVariables false
set_option linter.unusedSimpArgs false
set_option maxRecDepth 100000
noncomputable def gwP (k l : Nat) : List Code := ((flat (bodyOf 3)).drop k).take l
/-- Its calls: V is what Ops answers, K9 what it has made. -/
noncomputable def gwΦ (N : Int → Int → Int) (G8 : Int → Int → Bool) (G9 : Nat → List Value → Nat → Heap → Bool) (V : Value) (K9 : Heap) (G10 : Value → Value → Bool) (G11 : Value → Bool) (G12 : Nat → Value → Heap → Bool) : Oracle := fun lo f args H => match f with
  | 7 => match args with
    | [] => some [(true, .bool true, H)]
    | _ => none
  | 8 => match args with
    | [.int .i64 a, .int .i64 b] => some [(G8 a b, .int .i64 (N a b), H)]
    | _ => none
  | 9 => match args with
    | [.func (.yield 6) ⟨xs⟩ ⟨[.int .i64 (.ofNat n)]⟩] => some [(G9 lo xs n H, V, H ++ K9)]
    | _ => none
  | 10 => match args with
    | [a, b] => some [(G10 a b, .bool true, H)]
    | _ => none
  | 11 => match args with
    | [a] => some [(G11 a, a, H)]
    | _ => none
  | 12 => match args with
    | [a] => some [(G12 lo a H, .slice (some ⟨H.length, 0, none⟩) (lenOf a).toNat 1, H ++ [some ⟨(unL a).map (Value.int .i64), 3, none⟩])]
    | _ => none
  | _ => none
noncomputable def gwRun (N : Int → Int → Int) (G8 : Int → Int → Bool) (G9 : Nat → List Value → Nat → Heap → Bool) (V : Value) (K9 : Heap) (G10 : Value → Value → Bool) (G11 : Value → Bool) (G12 : Nat → Value → Heap → Bool) (l : List Code) (F : Fr) (H : Heap) (ts : List Nat) : Option (Exit × List (Option Value) × Heap) :=
  runL ((ctx (gwΦ N G8 G9 V K9 G10 G11 G12)).at_ 3) (callK (ctx (gwΦ N G8 G9 V K9 G10 G11 G12)) 20) 20 0 158 3 (keeps 3) l F H (seeA ts)
theorem fn3 : sigOf 3 = some (158, [.tmp 4]) := by kernel_rfl
noncomputable def gwL : Code := loopIn (flat (bodyOf 3))[13]?
def inOf3 : Option Code → Code
  | some (.block _ c) => c
  | _ => .skip
noncomputable def gwI : Code := inOf3 (flat gwL)[2]?
noncomputable def gwC : Code := loopIn (flat gwI)[1]?
noncomputable def gwA : Code := loopIn (flat gwI)[3]?
def regO : Option Code → List Oper
  | some (.region _ ops _) => ops.toList
  | some (.block _ (.region _ ops _)) => ops.toList
  | _ => []
noncomputable def opC3 : List Oper := regO (flat gwC)[2]?
noncomputable def opA3 : List Oper := regO (flat gwA)[2]?
noncomputable def opsR (N : Int → Int → Int) (G8 : Int → Int → Bool) (G9 : Nat → List Value → Nat → Heap → Bool) (V : Value) (K9 : Heap) (G10 : Value → Value → Bool) (G11 : Value → Bool) (G12 : Nat → Value → Heap → Bool) (all l : List Oper) (F : Fr) (H : Heap) (ts : List Nat) : Option (List (Option Value) × Heap) :=
  opsK ((ctx (gwΦ N G8 G9 V K9 G10 G11 G12)).at_ 3) (callK (ctx (gwΦ N G8 G9 V K9 G10 G11 G12)) 20) 0 158 all l F H (fun F' H' => some (ts.map F'.get, H'))
theorem gw_flat : flat (bodyOf 3) = gwP 0 7 ++ (gwP 7 1 ++ (gwP 8 1 ++ (gwP 9 2 ++ (gwP 11 1 ++ (gwP 12 1 ++ ([.block 0 (.loop gwL)] ++ (gwP 14 2 ++ (gwP 16 1 ++ gwP 17 3)))))))) := by kernel_rfl
theorem gwL_flat : flat gwL = (flat gwL).take 2 ++ ([.block 1 gwI] ++ (flat gwL).drop 3) := by kernel_rfl
theorem gwI_flat : flat gwI = (flat gwI).take 1 ++ ([.block 2 (.loop gwC)] ++ ((flat gwI).drop 2).take 1 ++ [.block 4 (.loop gwA)]) := by kernel_rfl
theorem gwC_flat : flat gwC = (flat gwC).take 2 ++ ([.block 3 (.region 18 opC3.toArray false)] ++ (flat gwC).drop 3) := by kernel_rfl
theorem gwA_flat : flat gwA = (flat gwA).take 2 ++ ([.block 5 (.region 22 opA3.toArray false)] ++ (flat gwA).drop 3) := by kernel_rfl
def gwF (l : Value) (n : Int) : Fr := [(0, l), (1, .int .i64 n), (5, .bool true)]
def gwG (l : Value) (n : Int) (a : Value) : Fr := [(0, l), (1, .int .i64 n), (5, .bool true), (6, a)]
/-- What is told of a row's list's head. -/
def hdV (Pl : List Value) (i f : Nat) : Value := Pl.getD (0 + i * 13 + f) undef
def hdG (Pl : List Value) (m i f : Nat) (z : Res) : Res := bif decide (Int.ofNat i < ((m + 1 : Nat) : Int)) then bif Nat.blt (0 + i * 13 + f) Pl.length && true then z else none else none
section
variable (N : Int → Int → Int) (G8 : Int → Int → Bool) (G9 : Nat → List Value → Nat → Heap → Bool) (V : Value) (K9 : Heap) (G10 : Value → Value → Bool) (G11 : Value → Bool) (G12 : Nat → Value → Heap → Bool)
theorem gw_head (xs : List Value) (nl : Nat) (n : Int) : gwRun N G8 G9 V K9 G10 G11 G12 (gwP 0 7) (enterF 0 [gs 6 xs nl, .int .i64 n]) [] [0, 1, 5] =
    bif decide (80 < Int.ofNat nl) then some (.ret, (gwF (gs 6 xs nl) n).map (fun e => some e.2), []) else
    bif G8 n (w64 (Int.ofNat nl + 1)) then some (.normal, (gwF (gs 6 xs nl) (N n (w64 (Int.ofNat nl + 1)))).map (fun e => some e.2), []) else none := by kernel_rfl
theorem gw_head4 (xs : List Value) (nl : Nat) (n : Int) : gwRun N G8 G9 V K9 G10 G11 G12 (gwP 0 7) (enterF 0 [gs 6 xs nl, .int .i64 n]) [] [4] =
    bif decide (80 < Int.ofNat nl) then some (.ret, [some (.bool true)], []) else
    bif G8 n (w64 (Int.ofNat nl + 1)) then some (.normal, [some (.bool false)], []) else none := by kernel_rfl
theorem gw_kept (A : List Value) (na : Nat) : gwRun N G8 G9 V K9 G10 G11 G12 (gwP 11 1) [(6, gs 13 A na)] [] [8] = bif G11 (gs 13 A na) then some (.normal, [some (gs 13 A na)], []) else none := by kernel_rfl
theorem gw_cmp (A P : List Value) (na np : Nat) : gwRun N G8 G9 V K9 G10 G11 G12 (gwP 9 2) [(5, .bool true), (6, gs 13 A na), (7, gs 13 P np)] [] [] =
    bif decide (Int.ofNat na < Int.ofNat np) then some (.ret, [], []) else bif Nat.ble np na && true then
    bif G10 (gs 13 P np) (gs 13 (List.take ((np - 0) * 13) (List.drop (0 * 13) A)) (np - 0)) then some (.normal, [], []) else none else none := by kernel_rfl
theorem gw_zero (H : Heap) : gwRun N G8 G9 V K9 G10 G11 G12 (gwP 12 1) [] H [9] = some (.normal, [some (.int .i64 0)], H) := by kernel_rfl
def gwS (m : Nat) (i : Int) : Fr := [(7, sl 0 (m + 1) 13), (9, .int .i64 i)]
def gwT (m : Nat) (i k : Int) (t : Nat) : Fr := [(7, sl 0 (m + 1) 13), (9, .int .i64 i), (t, .int .i64 k)]
theorem gw_L1 (Pl : List Value) (m i : Nat) : gwRun N G8 G9 V K9 G10 G11 G12 ((flat gwL).take 2) (gwS m (Int.ofNat i)) [some ⟨Pl, 32, none⟩] [7, 9] =
    bif decide (Int.ofNat i < Int.ofNat (m + 1)) then some (.normal, (gwS m (Int.ofNat i)).map (fun e => some e.2), [some ⟨Pl, 32, none⟩]) else some (.exit 0, (gwS m (Int.ofNat i)).map (fun e => some e.2), [some ⟨Pl, 32, none⟩]) := by kernel_rfl
theorem gw_L3 (Pl : List Value) (m i : Nat) : gwRun N G8 G9 V K9 G10 G11 G12 ((flat gwL).drop 3) (gwS m (Int.ofNat i)) [some ⟨Pl, 32, none⟩] [7, 9] =
    some (.normal, (gwS m (w64 (Int.ofNat i + 1))).map (fun e => some e.2), [some ⟨Pl, 32, none⟩]) := by kernel_rfl
theorem gw_I1 (Pl : List Value) (m : Nat) (i : Int) : gwRun N G8 G9 V K9 G10 G11 G12 ((flat gwI).take 1) (gwS m i) [some ⟨Pl, 32, none⟩] [7, 9, 10] =
    some (.normal, (gwT m i 0 10).map (fun e => some e.2), [some ⟨Pl, 32, none⟩]) := by kernel_rfl
theorem gw_I3 (Pl : List Value) (m : Nat) (i : Int) : gwRun N G8 G9 V K9 G10 G11 G12 (((flat gwI).drop 2).take 1) (gwS m i) [some ⟨Pl, 32, none⟩] [7, 9, 11] =
    some (.normal, (gwT m i 0 11).map (fun e => some e.2), [some ⟨Pl, 32, none⟩]) := by kernel_rfl
theorem gw_C1 (Pl : List Value) (m i k : Nat) : gwRun N G8 G9 V K9 G10 G11 G12 ((flat gwC).take 2) (gwT m (Int.ofNat i) (Int.ofNat k) 10) [some ⟨Pl, 32, none⟩] [7, 9, 10] =
    hdG Pl m i 12 (bif isLen (hdV Pl i 12) then bif decide (Int.ofNat k < lenOf (hdV Pl i 12)) then some (.normal, (gwT m (Int.ofNat i) (Int.ofNat k) 10).map (fun e => some e.2), [some ⟨Pl, 32, none⟩]) else some (.exit 2, (gwT m (Int.ofNat i) (Int.ofNat k) 10).map (fun e => some e.2), [some ⟨Pl, 32, none⟩]) else none) := by kernel_rfl
theorem gw_C3 (Pl : List Value) (m i k : Nat) : gwRun N G8 G9 V K9 G10 G11 G12 ((flat gwC).drop 3) (gwT m (Int.ofNat i) (Int.ofNat k) 10) [some ⟨Pl, 32, none⟩] [7, 9, 10] =
    some (.normal, (gwT m (Int.ofNat i) (w64 (Int.ofNat k + 1)) 10).map (fun e => some e.2), [some ⟨Pl, 32, none⟩]) := by kernel_rfl
theorem gw_Cload (Pl : List Value) (m i k : Nat) : opsR N G8 G9 V K9 G10 G11 G12 opC3 (opC3.take 5) (gwT m (Int.ofNat i) (Int.ofNat k) 10) [some ⟨Pl, 32, none⟩] [10, 73] =
    bif decide (Int.ofNat i < ((m + 1 : Nat) : Int)) then bif Nat.blt (0 + i * 13 + 12) Pl.length && true then some ([some (.int .i64 (Int.ofNat k)), some (hdV Pl i 12)], [some ⟨Pl, 32, none⟩]) else none else none := by kernel_rfl
theorem gw_Cplace (Pl : List Value) (k n : Nat) (ys : List Value) : opsR N G8 G9 V K9 G10 G11 G12 opC3 ((opC3.drop 5).take 2) [(10, .int .i64 (Int.ofNat k)), (73, gs 1 ys n)] [some ⟨Pl, 32, none⟩] [75] =
    bif decide (Int.ofNat k < Int.ofNat n) && true then some ([some (gp (ys.drop (k * 1)))], [some ⟨Pl, 32, none⟩]) else none := by kernel_rfl
theorem gw_A1 (Pl : List Value) (m i k : Nat) : gwRun N G8 G9 V K9 G10 G11 G12 ((flat gwA).take 2) (gwT m (Int.ofNat i) (Int.ofNat k) 11) [some ⟨Pl, 32, none⟩] [7, 9, 11] =
    hdG Pl m i 10 (bif isLen (hdV Pl i 10) then bif decide (Int.ofNat k < lenOf (hdV Pl i 10)) then some (.normal, (gwT m (Int.ofNat i) (Int.ofNat k) 11).map (fun e => some e.2), [some ⟨Pl, 32, none⟩]) else some (.exit 4, (gwT m (Int.ofNat i) (Int.ofNat k) 11).map (fun e => some e.2), [some ⟨Pl, 32, none⟩]) else none) := by kernel_rfl
theorem gw_A3 (Pl : List Value) (m i k : Nat) : gwRun N G8 G9 V K9 G10 G11 G12 ((flat gwA).drop 3) (gwT m (Int.ofNat i) (Int.ofNat k) 11) [some ⟨Pl, 32, none⟩] [7, 9, 11] =
    some (.normal, (gwT m (Int.ofNat i) (w64 (Int.ofNat k + 1)) 11).map (fun e => some e.2), [some ⟨Pl, 32, none⟩]) := by kernel_rfl
theorem gw_Aload (Pl : List Value) (m i k : Nat) : opsR N G8 G9 V K9 G10 G11 G12 opA3 (opA3.take 5) (gwT m (Int.ofNat i) (Int.ofNat k) 11) [some ⟨Pl, 32, none⟩] [11, 90] =
    bif decide (Int.ofNat i < ((m + 1 : Nat) : Int)) then bif Nat.blt (0 + i * 13 + 10) Pl.length && true then some ([some (.int .i64 (Int.ofNat k)), some (hdV Pl i 10)], [some ⟨Pl, 32, none⟩]) else none else none := by kernel_rfl
theorem gw_Aplace (Pl : List Value) (k n : Nat) (ys : List Value) : opsR N G8 G9 V K9 G10 G11 G12 opA3 ((opA3.drop 5).take 2) [(11, .int .i64 (Int.ofNat k)), (90, gs 1 ys n)] [some ⟨Pl, 32, none⟩] [92] =
    bif decide (Int.ofNat k < Int.ofNat n) && true then some ([some (gp (ys.drop (k * 1)))], [some ⟨Pl, 32, none⟩]) else none := by kernel_rfl
end
section
variable (N : Int → Int → Int) (G8 : Int → Int → Bool) (G9 : Nat → List Value → Nat → Heap → Bool) (G10 : Value → Value → Bool) (G11 : Value → Bool) (G12 : Nat → Value → Heap → Bool)
theorem gw_all (xs : List Value) (nl : Nat) (n : Int) (A : List Value) (na : Nat) : gwRun N G8 G9 (gs 13 A na) [] G10 G11 G12 (gwP 7 1) (gwF (gs 6 xs nl) n) [] [0, 1, 5, 6] =
    bif G9 0 xs nl [] then some (.normal, (gwG (gs 6 xs nl) n (gs 13 A na)).map (fun e => some e.2), []) else none := by kernel_rfl
theorem gw_part (xs : List Value) (nl : Nat) (n : Int) (m : Nat) (R : Nat → Value) (c o a : Value) (b1 b2 : Option Blk) : gwRun N G8 G9 (sl 1 (m + 1) 13) [hgB R c o a, b1, b2] G10 G11 G12 (gwP 8 1) [(0, gs 6 xs nl), (1, .int .i64 n)] [] [7] =
    bif decide (0 ≤ n) && (Nat.ble n.toNat nl && true) then bif G9 0 (List.take ((n.toNat - 0) * 6) (List.drop (0 * 6) xs)) (n.toNat - 0) [] then some (.normal, [some (sl 1 (m + 1) 13)], [hgB R c o a, b1, b2]) else none else none := by kernel_rfl
theorem gw_part0 (xs : List Value) (nl : Nat) (n : Int) (R : Nat → Value) (c o a : Value) (b1 b2 : Option Blk) : gwRun N G8 G9 nilV [hgB R c o a, b1, b2] G10 G11 G12 (gwP 8 1) [(0, gs 6 xs nl), (1, .int .i64 n)] [] [7] =
    bif decide (0 ≤ n) && (Nat.ble n.toNat nl && true) then bif G9 0 (List.take ((n.toNat - 0) * 6) (List.drop (0 * 6) xs)) (n.toNat - 0) [] then some (.normal, [some nilV], [hgB R c o a, b1, b2]) else none else none := by kernel_rfl
theorem gw_same (xs : List Value) (nl : Nat) (A : List Value) (na : Nat) : gwRun N G8 G9 (gs 13 A na) [] G10 G11 G12 (gwP 14 2) [(0, gs 6 xs nl), (6, gs 13 A na), (8, gs 13 A na)] [] [6] =
    bif G10 (gs 13 A na) (gs 13 A na) then bif G9 0 xs nl [] then bif G10 (gs 13 A na) (gs 13 A na) then some (.normal, [some (gs 13 A na)], []) else none else none else none := by kernel_rfl
end
end Go.Proofs.Ytbcikaoklpekhaa.Ab
