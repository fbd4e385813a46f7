/- DepBranches: the runs. Written by gen_branches.py. -/
import Derived.Test.YtbcikaoklpekhaaDepNum
namespace Go.Proofs.Ytbcikaoklpekhaa.Ab
open Go Go.RowKit
set_option linter.unusedVariables false
set_option linter.unusedSimpArgs false
set_option maxRecDepth 100000
noncomputable def brP (k l : Nat) : List Code := ((flat (bodyOf 5)).drop k).take l
noncomputable def brB (k : Nat) : Code := loopIn (flat (bodyOf 5))[k]?
noncomputable def brRun (N : Int → Int → Int) (W : Int → Int → Int → Int → Int → Int) (G : Int → Int → Int → Int → Int → Bool) (G8 : Int → Int → Bool) (G9 : List Value → Nat → Bool) (V : List Value → Nat → Value) (G15 : List Value → Nat → Bool) (V15 : List Value → Nat → Value) (G14 : Value → Value → Bool) (S : Value → Value → Bool) (l : List Code) (F : Fr) (H : Heap) (ts : List Nat) : Option (Exit × List (Option Value) × Heap) :=
  runL ((ctx (lxΦ N W G G8 G9 V G15 V15 G14 S)).at_ 5) (callK (ctx (lxΦ N W G G8 G9 V G15 V15 G14 S)) 20) 20 0 124 5 (keeps 5) l F H (seeA ts)
/-- What stands in the loop's inner block. -/
def inOf : Option Code → Code
  | some (.block _ c) => c
  | _ => .skip
noncomputable def brIn : Code := inOf (flat (brB 8))[2]?
noncomputable def brI : List Code := flat brIn
theorem br_in : flat (brB 8) = (flat (brB 8)).take 2 ++ ([.block 1 brIn] ++ (flat (brB 8)).drop 3) := by kernel_rfl
theorem fn5 : sigOf 5 = some (124, [.tmp 6]) := by kernel_rfl
theorem br_flat : flat (bodyOf 5) = brP 0 8 ++ ([.block 0 (.loop (brB 8))] ++ (brP 9 5 ++ ([.block 2 (.loop (brB 14))] ++ (brP 15 1 ++ ([.block 4 (.loop (brB 16))] ++ brP 17 2))))) := by kernel_rfl
def brF (n a : Int) (j : Bool) (l : Value) (k : Int) : Fr := [(0, .int .i64 n), (1, .int .i64 a), (2, .bool j), (7, .bool true), (8, l), (9, .int .i64 k)]
def brE (n a : Int) (j : Bool) (l : Value) : Fr := [(0, .int .i64 n), (1, .int .i64 a), (2, .bool j), (7, .bool true), (8, l)]
def brO (n a : Int) (j : Bool) (o w : Value) (k : Int) : Fr := [(0, .int .i64 n), (1, .int .i64 a), (2, .bool j), (11, o), (12, w), (13, .int .i64 k)]
def brC (n a : Int) (o w : Value) (k : Int) : Fr := [(0, .int .i64 n), (1, .int .i64 a), (11, o), (12, w), (14, .int .i64 k)]
def brD (n a : Int) (o w : Value) : Fr := [(0, .int .i64 n), (1, .int .i64 a), (11, o), (12, w)]
def par (K : Nat) : Int := (Int.ofNat K).tmod 2
/-- A load put behind. -/
noncomputable def brLd (W : Int → Int → Int → Int → Int → Int) (G : Int → Int → Int → Int → Int → Bool) (K : Nat) (leaf : Int → Res) : Res :=
  bif par K == 0 then bif G 13 (w64 (1 + 0)) 5 0 0 then leaf (W 13 (w64 (1 + 0)) 5 0 0) else none else bif par K == 1 then bif G 13 (w64 (1 + 1)) 5 0 0 then leaf (W 13 (w64 (1 + 1)) 5 0 0) else none else none
def brWt (a : Int) (j : Bool) (K : Nat) (app keep : Res) : Res :=
  bif par K == 0 then bif decide (a ≤ w64 (Int.ofNat K + 2)) then app else
    bif !j then bif par K == 0 then keep else bif par K == 1 then bif decide (a ≤ w64 (Int.ofNat K + 2)) then app else keep else none else keep
  else bif par K == 1 then bif !j then bif par K == 0 then keep else bif par K == 1 then bif decide (a ≤ w64 (Int.ofNat K + 2)) then app else keep else none else keep else none
/-- What an operation's list of control is told as. -/
def ctV (cs : List Value) (K : Nat) : Value := (List.drop 12 (List.drop (K * 13) cs)).getD 0 undef
def ctG (cs : List Value) (c K : Nat) (z : Res) : Res := bif decide (Int.ofNat K < Int.ofNat c) && true then bif Nat.ble 12 (List.drop (K * 13) cs).length then bif Nat.blt 0 (List.drop 12 (List.drop (K * 13) cs)).length && true then z else none else none else none
section
variable (N : Int → Int → Int) (W : Int → Int → Int → Int → Int → Int) (G : Int → Int → Int → Int → Int → Bool) (G8 : Int → Int → Bool) (G9 : List Value → Nat → Bool) (V : List Value → Nat → Value) (G15 : List Value → Nat → Bool) (V15 : List Value → Nat → Value) (G14 : Value → Value → Bool) (S : Value → Value → Bool)
theorem br_head (n0 a0 : Int) (j : Bool) : brRun N W G G8 G9 V G15 V15 G14 S (brP 0 8) (enterF 0 [.int .i64 n0, .int .i64 a0, .bool j]) [] [0, 1, 2, 7, 8, 9] =
    bif G8 n0 20 then bif G8 a0 (w64 (w64 (N n0 20 + 1) + 1)) then some (.normal, (brF (w64 (N n0 20 + 1)) (N a0 (w64 (w64 (N n0 20 + 1) + 1))) j nilV 0).map (fun e => some e.2), []) else none else none := by kernel_rfl
theorem br_R8 (n a : Int) (j : Bool) (l : Value) (K : Nat) (H : Heap) : brRun N W G G8 G9 V G15 V15 G14 S ((flat (brB 8)).take 2) (brF n a j l (Int.ofNat K)) H [0, 1, 2, 7, 8, 9] =
    bif decide (Int.ofNat K < n) then some (.normal, (brF n a j l (Int.ofNat K)).map (fun e => some e.2), H) else some (.exit 0, (brF n a j l (Int.ofNat K)).map (fun e => some e.2), H) := by kernel_rfl
theorem br_R9 (n a : Int) (j : Bool) (l : Value) (K : Nat) (H : Heap) : brRun N W G G8 G9 V G15 V15 G14 S ((flat (brB 8)).drop 3) (brF n a j l (Int.ofNat K)) H [0, 1, 2, 7, 8, 9] =
    some (.normal, (brF n a j l (w64 (Int.ofNat K + 1))).map (fun e => some e.2), H) := by kernel_rfl
theorem br_A0 (n a : Int) (j : Bool) (K : Nat) : brRun N W G G8 G9 V G15 V15 G14 S (brI.take 2) (brF n a j nilV (Int.ofNat K)) [] [0, 1, 2, 7, 8, 9] =
    bif Int.ofNat K == a then bif G 5 0 1 2 8 then bif j then bif G 4 0 1 0 0 then some (.normal, (brF n a j (sl 1 1 6) (Int.ofNat K)).map (fun e => some e.2), [some ⟨itemC (mkI (W 4 0 1 0 0)), 37, none⟩, some ⟨itemC (mkI (W 4 0 1 0 0)), 37, none⟩]) else none
    else some (.normal, (brF n a j (sl 1 1 6) (Int.ofNat K)).map (fun e => some e.2), [some ⟨itemC (mkI (W 5 0 1 2 8)), 37, none⟩, some ⟨itemC (mkI (W 5 0 1 2 8)), 37, none⟩]) else none
    else some (.normal, (brF n a j nilV (Int.ofNat K)).map (fun e => some e.2), []) := by kernel_rfl
theorem br_A1 (n a : Int) (j : Bool) (K m : Nat) (xs : List Value) : brRun N W G G8 G9 V G15 V15 G14 S (brI.take 2) (brF n a j (sl 0 (m + 1) 6) (Int.ofNat K)) [some ⟨xs, 37, none⟩] [0, 1, 2, 7, 8, 9] =
    bif Int.ofNat K == a then bif G 5 0 1 2 8 then bif j then bif G 4 0 1 0 0 then bif moreG xs.length (m + 1) 6 20 then some (.normal, (brF n a j (sl 2 (m + 1 + 1) 6) (Int.ofNat K)).map (fun e => some e.2), [none, some ⟨itemC (mkI (W 4 0 1 0 0)), 37, none⟩, some ⟨xs ++ itemC (mkI (W 4 0 1 0 0)), 37, none⟩]) else none else none
    else bif moreG xs.length (m + 1) 6 20 then some (.normal, (brF n a j (sl 2 (m + 1 + 1) 6) (Int.ofNat K)).map (fun e => some e.2), [none, some ⟨itemC (mkI (W 5 0 1 2 8)), 37, none⟩, some ⟨xs ++ itemC (mkI (W 5 0 1 2 8)), 37, none⟩]) else none else none
    else some (.normal, (brF n a j (sl 0 (m + 1) 6) (Int.ofNat K)).map (fun e => some e.2), [some ⟨xs, 37, none⟩]) := by kernel_rfl
theorem br_B0' (n a : Int) (j : Bool) (K : Nat) : brRun N W G G8 G9 V G15 V15 G14 S (brI.drop 2) (brF n a j nilV (Int.ofNat K)) [] [0, 1, 2, 7, 8, 9] =
    bif (Int.ofNat K).tmod 2 == 0 then bif G 13 (w64 (1 + 0)) 5 0 0 then some (.normal, (brF n a j (sl 1 1 6) (Int.ofNat K)).map (fun e => some e.2), [some ⟨itemC (mkI (W 13 (w64 (1 + 0)) 5 0 0)), 37, none⟩, some ⟨itemC (mkI (W 13 (w64 (1 + 0)) 5 0 0)), 37, none⟩]) else none
    else bif (Int.ofNat K).tmod 2 == 1 then bif G 13 (w64 (1 + 1)) 5 0 0 then some (.normal, (brF n a j (sl 1 1 6) (Int.ofNat K)).map (fun e => some e.2), [some ⟨itemC (mkI (W 13 (w64 (1 + 1)) 5 0 0)), 37, none⟩, some ⟨itemC (mkI (W 13 (w64 (1 + 1)) 5 0 0)), 37, none⟩]) else none else none := by kernel_rfl
theorem br_B0 (n a : Int) (j : Bool) (K : Nat) : brRun N W G G8 G9 V G15 V15 G14 S (brI.drop 2) (brF n a j nilV (Int.ofNat K)) [] [0, 1, 2, 7, 8, 9] =
    brLd W G K (fun w => some (.normal, (brF n a j (sl 1 1 6) (Int.ofNat K)).map (fun e => some e.2), [some ⟨itemC (mkI w), 37, none⟩, some ⟨itemC (mkI w), 37, none⟩])) := by unfold brLd par; exact br_B0' N W G G8 G9 V G15 V15 G14 S n a j K
theorem br_B1' (n a : Int) (j : Bool) (K m : Nat) (xs : List Value) : brRun N W G G8 G9 V G15 V15 G14 S (brI.drop 2) (brF n a j (sl 0 (m + 1) 6) (Int.ofNat K)) [some ⟨xs, 37, none⟩] [0, 1, 2, 7, 8, 9] =
    bif (Int.ofNat K).tmod 2 == 0 then bif G 13 (w64 (1 + 0)) 5 0 0 then bif moreG xs.length (m + 1) 6 20 then some (.normal, (brF n a j (sl 2 (m + 1 + 1) 6) (Int.ofNat K)).map (fun e => some e.2), [none, some ⟨itemC (mkI (W 13 (w64 (1 + 0)) 5 0 0)), 37, none⟩, some ⟨xs ++ itemC (mkI (W 13 (w64 (1 + 0)) 5 0 0)), 37, none⟩]) else none else none
    else bif (Int.ofNat K).tmod 2 == 1 then bif G 13 (w64 (1 + 1)) 5 0 0 then bif moreG xs.length (m + 1) 6 20 then some (.normal, (brF n a j (sl 2 (m + 1 + 1) 6) (Int.ofNat K)).map (fun e => some e.2), [none, some ⟨itemC (mkI (W 13 (w64 (1 + 1)) 5 0 0)), 37, none⟩, some ⟨xs ++ itemC (mkI (W 13 (w64 (1 + 1)) 5 0 0)), 37, none⟩]) else none else none else none := by kernel_rfl
theorem br_B1 (n a : Int) (j : Bool) (K m : Nat) (xs : List Value) : brRun N W G G8 G9 V G15 V15 G14 S (brI.drop 2) (brF n a j (sl 0 (m + 1) 6) (Int.ofNat K)) [some ⟨xs, 37, none⟩] [0, 1, 2, 7, 8, 9] =
    brLd W G K (fun w => bif moreG xs.length (m + 1) 6 20 then some (.normal, (brF n a j (sl 2 (m + 1 + 1) 6) (Int.ofNat K)).map (fun e => some e.2), [none, some ⟨itemC (mkI w), 37, none⟩, some ⟨xs ++ itemC (mkI w), 37, none⟩]) else none) := by unfold brLd par; exact br_B1' N W G G8 G9 V G15 V15 G14 S n a j K m xs
theorem br_want0' (n a : Int) (j : Bool) (o : Value) (K : Nat) : brRun N W G G8 G9 V G15 V15 G14 S (flat (brB 14)) (brO n a j o nilV (Int.ofNat K)) [] [0, 1, 2, 11, 12, 13] =
    bif decide (Int.ofNat K < a) then (bif (Int.ofNat K).tmod 2 == 0 then bif decide (a ≤ w64 (Int.ofNat K + 2)) then (some (.normal, (brO n a j o (sl 1 1 1) (w64 (Int.ofNat K + 1))).map (fun e => some e.2), [some ⟨[.int .i64 (Int.ofNat K)], 3, none⟩, some ⟨[.int .i64 (Int.ofNat K)], 3, none⟩])) else bif !j then bif (Int.ofNat K).tmod 2 == 0 then (some (.normal, (brO n a j o nilV (w64 (Int.ofNat K + 1))).map (fun e => some e.2), [])) else bif (Int.ofNat K).tmod 2 == 1 then bif decide (a ≤ w64 (Int.ofNat K + 2)) then (some (.normal, (brO n a j o (sl 1 1 1) (w64 (Int.ofNat K + 1))).map (fun e => some e.2), [some ⟨[.int .i64 (Int.ofNat K)], 3, none⟩, some ⟨[.int .i64 (Int.ofNat K)], 3, none⟩])) else (some (.normal, (brO n a j o nilV (w64 (Int.ofNat K + 1))).map (fun e => some e.2), [])) else none else (some (.normal, (brO n a j o nilV (w64 (Int.ofNat K + 1))).map (fun e => some e.2), [])) else bif (Int.ofNat K).tmod 2 == 1 then bif !j then bif (Int.ofNat K).tmod 2 == 0 then (some (.normal, (brO n a j o nilV (w64 (Int.ofNat K + 1))).map (fun e => some e.2), [])) else bif (Int.ofNat K).tmod 2 == 1 then bif decide (a ≤ w64 (Int.ofNat K + 2)) then (some (.normal, (brO n a j o (sl 1 1 1) (w64 (Int.ofNat K + 1))).map (fun e => some e.2), [some ⟨[.int .i64 (Int.ofNat K)], 3, none⟩, some ⟨[.int .i64 (Int.ofNat K)], 3, none⟩])) else (some (.normal, (brO n a j o nilV (w64 (Int.ofNat K + 1))).map (fun e => some e.2), [])) else none else (some (.normal, (brO n a j o nilV (w64 (Int.ofNat K + 1))).map (fun e => some e.2), [])) else none)
    else some (.exit 2, (brO n a j o nilV (Int.ofNat K)).map (fun e => some e.2), []) := by kernel_rfl
theorem br_want0 (n a : Int) (j : Bool) (o : Value) (K : Nat) : brRun N W G G8 G9 V G15 V15 G14 S (flat (brB 14)) (brO n a j o nilV (Int.ofNat K)) [] [0, 1, 2, 11, 12, 13] =
    bif decide (Int.ofNat K < a) then brWt a j K (some (.normal, (brO n a j o (sl 1 1 1) (w64 (Int.ofNat K + 1))).map (fun e => some e.2), [some ⟨[.int .i64 (Int.ofNat K)], 3, none⟩, some ⟨[.int .i64 (Int.ofNat K)], 3, none⟩]))
      (some (.normal, (brO n a j o nilV (w64 (Int.ofNat K + 1))).map (fun e => some e.2), []))
    else some (.exit 2, (brO n a j o nilV (Int.ofNat K)).map (fun e => some e.2), []) := by unfold brWt par; exact br_want0' N W G G8 G9 V G15 V15 G14 S n a j o K
theorem br_want1' (n a : Int) (j : Bool) (o : Value) (K m : Nat) (ws : List Value) : brRun N W G G8 G9 V G15 V15 G14 S (flat (brB 14)) (brO n a j o (sl 0 (m + 1) 1) (Int.ofNat K)) [some ⟨ws, 3, none⟩] [0, 1, 2, 11, 12, 13] =
    bif decide (Int.ofNat K < a) then (bif (Int.ofNat K).tmod 2 == 0 then bif decide (a ≤ w64 (Int.ofNat K + 2)) then (bif moreG ws.length (m + 1) 1 8 then some (.normal, (brO n a j o (sl 2 (m + 1 + 1) 1) (w64 (Int.ofNat K + 1))).map (fun e => some e.2), [none, some ⟨[.int .i64 (Int.ofNat K)], 3, none⟩, some ⟨ws ++ [.int .i64 (Int.ofNat K)], 3, none⟩]) else none) else bif !j then bif (Int.ofNat K).tmod 2 == 0 then (some (.normal, (brO n a j o (sl 0 (m + 1) 1) (w64 (Int.ofNat K + 1))).map (fun e => some e.2), [some ⟨ws, 3, none⟩])) else bif (Int.ofNat K).tmod 2 == 1 then bif decide (a ≤ w64 (Int.ofNat K + 2)) then (bif moreG ws.length (m + 1) 1 8 then some (.normal, (brO n a j o (sl 2 (m + 1 + 1) 1) (w64 (Int.ofNat K + 1))).map (fun e => some e.2), [none, some ⟨[.int .i64 (Int.ofNat K)], 3, none⟩, some ⟨ws ++ [.int .i64 (Int.ofNat K)], 3, none⟩]) else none) else (some (.normal, (brO n a j o (sl 0 (m + 1) 1) (w64 (Int.ofNat K + 1))).map (fun e => some e.2), [some ⟨ws, 3, none⟩])) else none else (some (.normal, (brO n a j o (sl 0 (m + 1) 1) (w64 (Int.ofNat K + 1))).map (fun e => some e.2), [some ⟨ws, 3, none⟩])) else bif (Int.ofNat K).tmod 2 == 1 then bif !j then bif (Int.ofNat K).tmod 2 == 0 then (some (.normal, (brO n a j o (sl 0 (m + 1) 1) (w64 (Int.ofNat K + 1))).map (fun e => some e.2), [some ⟨ws, 3, none⟩])) else bif (Int.ofNat K).tmod 2 == 1 then bif decide (a ≤ w64 (Int.ofNat K + 2)) then (bif moreG ws.length (m + 1) 1 8 then some (.normal, (brO n a j o (sl 2 (m + 1 + 1) 1) (w64 (Int.ofNat K + 1))).map (fun e => some e.2), [none, some ⟨[.int .i64 (Int.ofNat K)], 3, none⟩, some ⟨ws ++ [.int .i64 (Int.ofNat K)], 3, none⟩]) else none) else (some (.normal, (brO n a j o (sl 0 (m + 1) 1) (w64 (Int.ofNat K + 1))).map (fun e => some e.2), [some ⟨ws, 3, none⟩])) else none else (some (.normal, (brO n a j o (sl 0 (m + 1) 1) (w64 (Int.ofNat K + 1))).map (fun e => some e.2), [some ⟨ws, 3, none⟩])) else none)
    else some (.exit 2, (brO n a j o (sl 0 (m + 1) 1) (Int.ofNat K)).map (fun e => some e.2), [some ⟨ws, 3, none⟩]) := by kernel_rfl
theorem br_want1 (n a : Int) (j : Bool) (o : Value) (K m : Nat) (ws : List Value) : brRun N W G G8 G9 V G15 V15 G14 S (flat (brB 14)) (brO n a j o (sl 0 (m + 1) 1) (Int.ofNat K)) [some ⟨ws, 3, none⟩] [0, 1, 2, 11, 12, 13] =
    bif decide (Int.ofNat K < a) then brWt a j K (bif moreG ws.length (m + 1) 1 8 then some (.normal, (brO n a j o (sl 2 (m + 1 + 1) 1) (w64 (Int.ofNat K + 1))).map (fun e => some e.2), [none, some ⟨[.int .i64 (Int.ofNat K)], 3, none⟩, some ⟨ws ++ [.int .i64 (Int.ofNat K)], 3, none⟩]) else none)
      (some (.normal, (brO n a j o (sl 0 (m + 1) 1) (w64 (Int.ofNat K + 1))).map (fun e => some e.2), [some ⟨ws, 3, none⟩]))
    else some (.exit 2, (brO n a j o (sl 0 (m + 1) 1) (Int.ofNat K)).map (fun e => some e.2), [some ⟨ws, 3, none⟩]) := by unfold brWt par; exact br_want1' N W G G8 G9 V G15 V15 G14 S n a j o K m ws
theorem br_zero (n a : Int) (o w : Value) : brRun N W G G8 G9 V G15 V15 G14 S (brP 15 1) (brD n a o w) [] [0, 1, 11, 12, 14] = some (.normal, (brC n a o w 0).map (fun e => some e.2), []) := by kernel_rfl
theorem br_see (n a : Int) (cs : List Value) (c K : Nat) (w : List Int) : brRun N W G G8 G9 V G15 V15 G14 S (flat (brB 16)) (brC n a (gs 13 cs c) (L1 w) (Int.ofNat K)) [] [0, 1, 11, 12, 14] =
    bif decide (Int.ofNat K < n) then
      bif decide (Int.ofNat K < a) then ctG cs c K (bif isLen (ctV cs K) then bif lenOf (ctV cs K) != 0 then some (.ret, (brC n a (gs 13 cs c) (L1 w) (Int.ofNat K)).map (fun e => some e.2), []) else
        bif decide (a ≤ Int.ofNat K) then ctG cs c K (bif G14 (ctV cs K) (L1 w) then bif S (ctV cs K) (L1 w) then some (.normal, (brC n a (gs 13 cs c) (L1 w) (w64 (Int.ofNat K + 1))).map (fun e => some e.2), []) else some (.ret, (brC n a (gs 13 cs c) (L1 w) (Int.ofNat K)).map (fun e => some e.2), []) else none) else some (.normal, (brC n a (gs 13 cs c) (L1 w) (w64 (Int.ofNat K + 1))).map (fun e => some e.2), []) else none)
      else bif decide (a ≤ Int.ofNat K) then ctG cs c K (bif G14 (ctV cs K) (L1 w) then bif S (ctV cs K) (L1 w) then some (.normal, (brC n a (gs 13 cs c) (L1 w) (w64 (Int.ofNat K + 1))).map (fun e => some e.2), []) else some (.ret, (brC n a (gs 13 cs c) (L1 w) (Int.ofNat K)).map (fun e => some e.2), []) else none) else some (.normal, (brC n a (gs 13 cs c) (L1 w) (w64 (Int.ofNat K + 1))).map (fun e => some e.2), [])
    else some (.exit 4, (brC n a (gs 13 cs c) (L1 w) (Int.ofNat K)).map (fun e => some e.2), []) := by kernel_rfl
theorem br_tail (n a : Int) (o w : Value) (k : Int) : brRun N W G G8 G9 V G15 V15 G14 S (brP 17 2) (brC n a o w k) [] [6] = some (.ret, [some (.bool true)], []) := by kernel_rfl
theorem br_dr1 : (brP 0 8).all (drawsOK ((ctx (lxΦ N W G G8 G9 V G15 V15 G14 S)).dr 5)) = true := by kernel_rfl
theorem br_dr8 : ((flat (brB 8)).take 2).all (drawsOK ((ctx (lxΦ N W G G8 G9 V G15 V15 G14 S)).dr 5)) = true := by kernel_rfl
theorem br_dr9 : ((flat (brB 8)).drop 3).all (drawsOK ((ctx (lxΦ N W G G8 G9 V G15 V15 G14 S)).dr 5)) = true := by kernel_rfl
theorem br_drA : (brI.take 2).all (drawsOK ((ctx (lxΦ N W G G8 G9 V G15 V15 G14 S)).dr 5)) = true := by kernel_rfl
theorem br_drB : (brI.drop 2).all (drawsOK ((ctx (lxΦ N W G G8 G9 V G15 V15 G14 S)).dr 5)) = true := by kernel_rfl
theorem br_dr2 : (flat (brB 8)).all (drawsOK ((ctx (lxΦ N W G G8 G9 V G15 V15 G14 S)).dr 5)) = true := by kernel_rfl
theorem br_dr3 : (brP 9 5).all (drawsOK ((ctx (lxΦ N W G G8 G9 V G15 V15 G14 S)).dr 5)) = true := by kernel_rfl
theorem br_dr4 : (flat (brB 14)).all (drawsOK ((ctx (lxΦ N W G G8 G9 V G15 V15 G14 S)).dr 5)) = true := by kernel_rfl
theorem br_dr5 : (brP 15 1).all (drawsOK ((ctx (lxΦ N W G G8 G9 V G15 V15 G14 S)).dr 5)) = true := by kernel_rfl
theorem br_dr6 : (flat (brB 16)).all (drawsOK ((ctx (lxΦ N W G G8 G9 V G15 V15 G14 S)).dr 5)) = true := by kernel_rfl
theorem br_dr7 : (brP 17 2).all (drawsOK ((ctx (lxΦ N W G G8 G9 V G15 V15 G14 S)).dr 5)) = true := by kernel_rfl
end
noncomputable def brMid (cs : List Value) (c : Nat) (N : Int → Int → Int) (W : Int → Int → Int → Int → Int → Int) (G : Int → Int → Int → Int → Int → Bool) (G8 : Int → Int → Bool) (G9 : List Value → Nat → Bool) (V : List Value → Nat → Value) (G15 : List Value → Nat → Bool) (V15 : List Value → Nat → Value) (G14 : Value → Value → Bool) (S : Value → Value → Bool) (n a : Int) (j : Bool) (xs : List Value) (k : Nat) : Res :=
  runL ((ctx (lxΦ N W G G8 G9 (fun _ _ => gs 13 cs c) G15 V15 G14 S)).at_ 5) (callK (ctx (lxΦ N W G G8 G9 (fun _ _ => gs 13 cs c) G15 V15 G14 S)) 20) 20 0 124 5 (keeps 5) (brP 9 5) (brE n a j (gs 6 xs k)) [] (seeA [0, 1, 2, 11, 12, 13])
theorem br_mid (cs : List Value) (c : Nat) (N : Int → Int → Int) (W : Int → Int → Int → Int → Int → Int) (G : Int → Int → Int → Int → Int → Bool) (G8 : Int → Int → Bool) (G9 : List Value → Nat → Bool) (V : List Value → Nat → Value) (G15 : List Value → Nat → Bool) (V15 : List Value → Nat → Value) (G14 : Value → Value → Bool) (S : Value → Value → Bool) (n a : Int) (j : Bool) (xs : List Value) (k : Nat) : brMid cs c N W G G8 G9 V G15 V15 G14 S n a j xs k =
    bif G9 xs k then bif Int.ofNat c != n then some (.ret, [some (.int .i64 n), some (.int .i64 a), some (.bool j), some (gs 13 cs c), none, none], []) else some (.normal, (brO n a j (gs 13 cs c) nilV 0).map (fun e => some e.2), []) else none := by kernel_rfl
end Go.Proofs.Ytbcikaoklpekhaa.Ab
