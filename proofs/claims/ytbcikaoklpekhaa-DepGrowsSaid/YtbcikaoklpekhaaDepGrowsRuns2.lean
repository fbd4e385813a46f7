/- DepGrows: the runs of its last loops. Written by gen_grows2.py. -/
import Derived.Test.YtbcikaoklpekhaaDepGrowsRuns
namespace Go.Proofs.Ytbcikaoklpekhaa.Ab
open Go Go.RowKit
set_option linter.unusedVariables false
set_option linter.unusedSimpArgs false
set_option maxRecDepth 100000
noncomputable def gwM : Code := loopIn (flat (bodyOf 3))[17]?
noncomputable def gwN : Code := inOf3 (flat gwM)[2]?
noncomputable def gwD : Code := loopIn (flat gwN)[2]?
noncomputable def gwE : Code := inOf3 (flat gwD)[2]?
theorem gwT_flat : gwP 17 3 = [.block 6 (.loop gwM)] ++ gwP 18 2 := by kernel_rfl
theorem gwM_flat : flat gwM = (flat gwM).take 2 ++ ([.block 7 gwN] ++ (flat gwM).drop 3) := by kernel_rfl
theorem gwN_flat : flat gwN = (flat gwN).take 1 ++ (((flat gwN).drop 1).take 1 ++ [.block 8 (.loop gwD)]) := by kernel_rfl
theorem gwD_flat : flat gwD = (flat gwD).take 2 ++ ([.block 9 gwE] ++ (flat gwD).drop 3) := by kernel_rfl
def gwU (cs : List Value) (n : Nat) (i : Int) : Fr := [(6, gs 13 cs n), (12, .int .i64 i)]
def gwX (cs : List Value) (n : Nat) (i : Int) (d : Value) : Fr := [(6, gs 13 cs n), (12, .int .i64 i), (13, d)]
def gwY (cs : List Value) (n : Nat) (i : Int) (d : Value) (k : Int) : Fr := [(6, gs 13 cs n), (12, .int .i64 i), (13, d), (14, .int .i64 k)]
/-- What is loaded of a row of ghosts. -/
def gV (cs : List Value) (i f : Nat) : Value := (List.drop f (List.drop (i * 13) cs)).getD 0 undef
def gG (cs : List Value) (n i f : Nat) (z : Res) : Res := bif decide (Int.ofNat i < Int.ofNat n) && true then bif Nat.ble f (List.drop (i * 13) cs).length then bif (Nat.blt 0 (List.drop f (List.drop (i * 13) cs)).length && true) && isGs (gV cs i f) then z else none else none else none
/-- What is asked where so many more numbers are put behind. -/
def moreN (X Y : List Value) (m n : Nat) : Bool := Nat.beq X.length (m * 1) && (Y.all Ab.one && (Nat.ble ((m + n) * 8) 140737488355328 && Nat.ble (m + n) 9223372036854775807))
section
variable (N : Int → Int → Int) (G8 : Int → Int → Bool) (G9 : Nat → List Value → Nat → Heap → Bool) (V : Value) (K9 : Heap) (G10 : Value → Value → Bool) (G11 : Value → Bool) (G12 : Nat → Value → Heap → Bool)
theorem gw_M0 (cs : List Value) (n : Nat) : gwRun N G8 G9 V K9 G10 G11 G12 (gwP 16 1) [(6, gs 13 cs n)] [] [6, 12] = some (.normal, (gwU cs n 0).map (fun e => some e.2), []) := by kernel_rfl
theorem gw_M1 (cs : List Value) (n i : Nat) : gwRun N G8 G9 V K9 G10 G11 G12 ((flat gwM).take 2) (gwU cs n (Int.ofNat i)) [] [6, 12] =
    bif decide (Int.ofNat i < Int.ofNat n) then some (.normal, (gwU cs n (Int.ofNat i)).map (fun e => some e.2), []) else some (.exit 6, (gwU cs n (Int.ofNat i)).map (fun e => some e.2), []) := by kernel_rfl
theorem gw_M3 (cs : List Value) (n i : Nat) : gwRun N G8 G9 V K9 G10 G11 G12 ((flat gwM).drop 3) (gwU cs n (Int.ofNat i)) [] [6, 12] = some (.normal, (gwU cs n (w64 (Int.ofNat i + 1))).map (fun e => some e.2), []) := by kernel_rfl
theorem gw_end (cs : List Value) (n : Nat) (i : Int) : gwRun N G8 G9 V K9 G10 G11 G12 (gwP 18 2) (gwU cs n i) [] [4] = some (.ret, [some (.bool true)], []) := by kernel_rfl
theorem gw_N1 (cs : List Value) (n i : Nat) : gwRun N G8 G9 V K9 G10 G11 G12 ((flat gwN).take 1) (gwU cs n (Int.ofNat i)) [] [6, 12, 13] =
    gG cs n i 10 (gG cs n i 11 (gG cs n i 12 (bif G12 0 (gs (zOf (gV cs i 10)) (csOf (gV cs i 10)) (nOf (gV cs i 10))) [] then
      bif Nat.beq (zOf (gV cs i 11)) 1 && moreN ((ints (csOf (gV cs i 10))).map (Value.int .i64)) (csOf (gV cs i 11)) (nOf (gV cs i 10)) (nOf (gV cs i 11)) then
      bif Nat.beq (zOf (gV cs i 12)) 1 && moreN ((ints (csOf (gV cs i 10))).map (Value.int .i64) ++ csOf (gV cs i 11)) (csOf (gV cs i 12)) (nOf (gV cs i 10) + nOf (gV cs i 11)) (nOf (gV cs i 12)) then
        some (.normal, (gwX cs n (Int.ofNat i) (sl 2 (nOf (gV cs i 10) + nOf (gV cs i 11) + nOf (gV cs i 12)) 1)).map (fun e => some e.2), [none, none, some ⟨(ints (csOf (gV cs i 10))).map (Value.int .i64) ++ csOf (gV cs i 11) ++ csOf (gV cs i 12), 3, none⟩])
      else none else none else none))) := by kernel_rfl
theorem gw_N2 (cs : List Value) (n : Nat) (i : Int) (d : Value) (H : Heap) : gwRun N G8 G9 V K9 G10 G11 G12 (((flat gwN).drop 1).take 1) (gwX cs n i d) H [6, 12, 13, 14] = some (.normal, (gwY cs n i d 0).map (fun e => some e.2), H) := by kernel_rfl
theorem gw_D1 (cs : List Value) (n k : Nat) (i : Int) (d : List Int) : gwRun N G8 G9 V K9 G10 G11 G12 ((flat gwD).take 2) (gwY cs n i (L1 d) (Int.ofNat k)) [] [6, 12, 13, 14] =
    bif decide (Int.ofNat k < Int.ofNat d.length) then some (.normal, (gwY cs n i (L1 d) (Int.ofNat k)).map (fun e => some e.2), []) else some (.exit 8, (gwY cs n i (L1 d) (Int.ofNat k)).map (fun e => some e.2), []) := by kernel_rfl
theorem gw_D3 (cs : List Value) (n k : Nat) (i : Int) (d : List Int) : gwRun N G8 G9 V K9 G10 G11 G12 ((flat gwD).drop 3) (gwY cs n i (L1 d) (Int.ofNat k)) [] [6, 12, 13, 14] = some (.normal, (gwY cs n i (L1 d) (w64 (Int.ofNat k + 1))).map (fun e => some e.2), []) := by kernel_rfl
/-- The kind of the operation that a number names. -/
def kdV (cs : List Value) (x : Int) : Value := (List.drop 0 (List.drop (x.toNat * 13) cs)).getD 0 undef
theorem gw_E (cs : List Value) (n i k : Nat) (d : List Int) : gwRun N G8 G9 V K9 G10 G11 G12 (flat gwE) (gwY cs n (Int.ofNat i) (L1 d) (Int.ofNat k)) [] [6, 12, 13, 14] =
    ldG d k (bif decide (toInt (ldI d k) < 0) then some (.ret, (gwY cs n (Int.ofNat i) (L1 d) (Int.ofNat k)).map (fun e => some e.2), []) else
    ldG d k (bif decide (toInt (ldI d k) ≥ Int.ofNat i) then some (.ret, (gwY cs n (Int.ofNat i) (L1 d) (Int.ofNat k)).map (fun e => some e.2), []) else
    ldG d k (bif decide (0 ≤ toInt (ldI d k)) && (decide (toInt (ldI d k) < Int.ofNat n) && true) then bif Nat.blt 0 (List.drop 0 (List.drop ((toInt (ldI d k)).toNat * 13) cs)).length && isInt .i64 (kdV cs (toInt (ldI d k))) then
      bif toInt (kdV cs (toInt (ldI d k))) == 4 then some (.ret, (gwY cs n (Int.ofNat i) (L1 d) (Int.ofNat k)).map (fun e => some e.2), []) else some (.normal, (gwY cs n (Int.ofNat i) (L1 d) (Int.ofNat k)).map (fun e => some e.2), []) else none else none))) := by kernel_rfl
theorem gw_drM0 : (gwP 16 1).all (drawsOK ((ctx (gwΦ N G8 G9 V K9 G10 G11 G12)).dr 3)) = true := by kernel_rfl
theorem gw_drM1 : ((flat gwM).take 2).all (drawsOK ((ctx (gwΦ N G8 G9 V K9 G10 G11 G12)).dr 3)) = true := by kernel_rfl
theorem gw_drM3 : ((flat gwM).drop 3).all (drawsOK ((ctx (gwΦ N G8 G9 V K9 G10 G11 G12)).dr 3)) = true := by kernel_rfl
theorem gw_drend : (gwP 18 2).all (drawsOK ((ctx (gwΦ N G8 G9 V K9 G10 G11 G12)).dr 3)) = true := by kernel_rfl
theorem gw_drN1 : ((flat gwN).take 1).all (drawsOK ((ctx (gwΦ N G8 G9 V K9 G10 G11 G12)).dr 3)) = true := by kernel_rfl
theorem gw_drN2 : (((flat gwN).drop 1).take 1).all (drawsOK ((ctx (gwΦ N G8 G9 V K9 G10 G11 G12)).dr 3)) = true := by kernel_rfl
theorem gw_drD1 : ((flat gwD).take 2).all (drawsOK ((ctx (gwΦ N G8 G9 V K9 G10 G11 G12)).dr 3)) = true := by kernel_rfl
theorem gw_drD3 : ((flat gwD).drop 3).all (drawsOK ((ctx (gwΦ N G8 G9 V K9 G10 G11 G12)).dr 3)) = true := by kernel_rfl
theorem gw_drE : (flat gwE).all (drawsOK ((ctx (gwΦ N G8 G9 V K9 G10 G11 G12)).dr 3)) = true := by kernel_rfl
end
end Go.Proofs.Ytbcikaoklpekhaa.Ab
