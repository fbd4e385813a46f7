/- DepChain: true for every two numbers and either way. Written by gen_chain.py. -/
import Derived.Test.YtbcikaoklpekhaaDepNum
import Derived.Test.YtbcikaoklpekhaaDepWordsC
namespace Go.Proofs.Ytbcikaoklpekhaa.Ab
open Go Go.RowKit
set_option linter.unusedVariables false
set_option linter.unusedSimpArgs false
set_option maxRecDepth 100000
noncomputable def chP (k l : Nat) : List Code := ((flat (bodyOf 4)).drop k).take l
noncomputable def chB : Code := loopIn (flat (bodyOf 4))[7]?
noncomputable def chRun (N : Int → Int → Int) (W : Int → Int → Int → Int → Int → Int) (G : Int → Int → Int → Int → Int → Bool) (G8 : Int → Int → Bool) (G9 : List Value → Nat → Bool) (V : List Value → Nat → Value) (G15 : List Value → Nat → Bool) (V15 : List Value → Nat → Value) (l : List Code) (F : Fr) (H : Heap) (ts : List Nat) : Option (Exit × List (Option Value) × Heap) :=
  runL ((ctx (lwΦ N W G G8 G9 V G15 V15)).at_ 4) (callK (ctx (lwΦ N W G G8 G9 V G15 V15)) 20) 20 0 103 4 (keeps 4) l F H (seeA ts)
theorem fn4 : sigOf 4 = some (103, [.tmp 6]) := by kernel_rfl
theorem ch_flat : flat (bodyOf 4) = chP 0 7 ++ ([.block 0 (.loop chB)] ++ (chP 8 2 ++ chP 10 10)) := by kernel_rfl
def chF (n cut : Int) (addr : Bool) (v : Value) (k : Int) : Fr := [(0, .int .i64 n), (1, .int .i64 cut), (2, .bool addr), (7, .bool true), (8, v), (9, .int .i64 k)]
def chG (n cut : Int) (addr : Bool) (v : Value) : Fr := [(0, .int .i64 n), (1, .int .i64 cut), (2, .bool addr), (7, .bool true), (8, v)]
section
variable (N : Int → Int → Int) (W : Int → Int → Int → Int → Int → Int) (G : Int → Int → Int → Int → Int → Bool) (G8 : Int → Int → Bool) (G9 : List Value → Nat → Bool) (V : List Value → Nat → Value) (G15 : List Value → Nat → Bool) (V15 : List Value → Nat → Value)
theorem ch_head (n cut : Int) (addr : Bool) : chRun N W G G8 G9 V G15 V15 (chP 0 7) (enterF 0 [.int .i64 n, .int .i64 cut, .bool addr]) [] [0, 1, 2, 7, 8, 9] =
    bif G8 n 20 then bif G 13 1 0 0 0 then some (.normal, (chF (w64 (N n 20 + 1)) cut addr (sl 0 1 6) 1).map (fun e => some e.2), [some ⟨itemC (mkI (W 13 1 0 0 0)), 37, none⟩]) else none else none := by kernel_rfl
def appH (xs : List Value) (w : Int) : Heap := [none, some ⟨itemC (mkI w), 37, none⟩, some ⟨xs ++ itemC (mkI w), 37, none⟩]
theorem ch_rnd (n cut : Int) (addr : Bool) (k m : Nat) (xs : List Value) : chRun N W G G8 G9 V G15 V15 (flat chB) (chF n cut addr (sl 0 (m + 1) 6) (Int.ofNat k)) [some ⟨xs, 37, none⟩] [0, 1, 2, 7, 8, 9] =
    bif decide (Int.ofNat k ≤ n) then bif G 28 (w64 (Int.ofNat k + 1)) (Int.ofNat k) 0 0 then bif Int.ofNat k == cut then bif G 1 (w64 (Int.ofNat k + 1)) 0 0 4096 then
      bif moreG xs.length (m + 1) 6 20 then some (.normal, (chF n cut addr (sl 2 (m + 1 + 1) 6) (w64 (Int.ofNat k + 1))).map (fun e => some e.2), appH xs (W 1 (w64 (Int.ofNat k + 1)) 0 0 4096)) else none else none
    else bif moreG xs.length (m + 1) 6 20 then some (.normal, (chF n cut addr (sl 2 (m + 1 + 1) 6) (w64 (Int.ofNat k + 1))).map (fun e => some e.2), appH xs (W 28 (w64 (Int.ofNat k + 1)) (Int.ofNat k) 0 0)) else none else none
    else some (.exit 0, (chF n cut addr (sl 0 (m + 1) 6) (Int.ofNat k)).map (fun e => some e.2), [some ⟨xs, 37, none⟩]) := by kernel_rfl
theorem ch_last (n cut : Int) (addr : Bool) (m : Nat) (xs : List Value) : chRun N W G G8 G9 V G15 V15 (chP 8 2) (chG n cut addr (sl 0 (m + 1) 6)) [some ⟨xs, 37, none⟩] [0, 1, 2, 7, 8] =
    bif addr then bif G 18 0 (w64 (n + 1)) 0 0 then bif moreG xs.length (m + 1) 6 20 then some (.normal, (chG n cut addr (sl 2 (m + 1 + 1) 6)).map (fun e => some e.2), appH xs (W 18 0 (w64 (n + 1)) 0 0)) else none else none
    else bif G 18 0 0 (w64 (n + 1)) 0 then bif moreG xs.length (m + 1) 6 20 then some (.normal, (chG n cut addr (sl 2 (m + 1 + 1) 6)).map (fun e => some e.2), appH xs (W 18 0 0 (w64 (n + 1)) 0)) else none else none := by kernel_rfl
theorem ch_dr1 : (chP 0 7).all (drawsOK ((ctx (lwΦ N W G G8 G9 V G15 V15)).dr 4)) = true := by kernel_rfl
theorem ch_dr2 : (flat chB).all (drawsOK ((ctx (lwΦ N W G G8 G9 V G15 V15)).dr 4)) = true := by kernel_rfl
theorem ch_dr3 : (chP 8 2).all (drawsOK ((ctx (lwΦ N W G G8 G9 V G15 V15)).dr 4)) = true := by kernel_rfl
theorem ch_dr4 : (chP 10 10).all (drawsOK ((ctx (lwΦ N W G G8 G9 V G15 V15)).dr 4)) = true := by kernel_rfl
end
/-- What Ops answers, in either case. -/
def chV (q0 q1 : OpT) (a d : List Int) : List Value → Nat → Value := fun _ _ => gs 13 (opC q0 (L1 []) (L1 []) (L1 []) ++ opC q1 (L1 a) (L1 d) (L1 [])) 2
noncomputable def chEnd (q0 q1 : OpT) (a d : List Int) (N : Int → Int → Int) (W : Int → Int → Int → Int → Int → Int) (G : Int → Int → Int → Int → Int → Bool) (G8 : Int → Int → Bool) (G9 : List Value → Nat → Bool) (V : List Value → Nat → Value) (G15 : List Value → Nat → Bool) (V15 : List Value → Nat → Value) (n cut : Int) (addr : Bool) (xs : List Value) (m : Nat) : Res :=
  runL ((ctx (lwΦ N W G G8 G9 (chV q0 q1 a d) G15 V15)).at_ 4) (callK (ctx (lwΦ N W G G8 G9 (chV q0 q1 a d) G15 V15)) 20) 20 0 103 4 (keeps 4) (chP 10 10) (chG n cut addr (gs 6 xs m)) [] (fun e F H => some (e, [F.get 6], []))
def chT (t f : Bool) (n cut : Int) (g : Bool) : Res :=
  bif g then bif decide (cut < 1) then some (.ret, [some (.bool t)], []) else bif decide (n < cut) then some (.ret, [some (.bool t)], []) else some (.ret, [some (.bool f)], []) else none
theorem ch_endA (N : Int → Int → Int) (W : Int → Int → Int → Int → Int → Int) (G : Int → Int → Int → Int → Int → Bool) (G8 : Int → Int → Bool) (G9 : List Value → Nat → Bool) (V : List Value → Nat → Value) (G15 : List Value → Nat → Bool) (V15 : List Value → Nat → Value) (q0 q1 : OpT) (n cut : Int) (xs : List Value) (m : Nat) : chEnd q0 q1 [0] [] N W G G8 G9 V G15 V15 n cut true xs m = chT true false n cut (G9 xs m) := by kernel_rfl
theorem ch_endB (N : Int → Int → Int) (W : Int → Int → Int → Int → Int → Int) (G : Int → Int → Int → Int → Int → Bool) (G8 : Int → Int → Bool) (G9 : List Value → Nat → Bool) (V : List Value → Nat → Value) (G15 : List Value → Nat → Bool) (V15 : List Value → Nat → Value) (q0 q1 : OpT) (n cut : Int) (xs : List Value) (m : Nat) : chEnd q0 q1 [] [] N W G G8 G9 V G15 V15 n cut true xs m = chT false true n cut (G9 xs m) := by kernel_rfl
theorem ch_endC (N : Int → Int → Int) (W : Int → Int → Int → Int → Int → Int) (G : Int → Int → Int → Int → Int → Bool) (G8 : Int → Int → Bool) (G9 : List Value → Nat → Bool) (V : List Value → Nat → Value) (G15 : List Value → Nat → Bool) (V15 : List Value → Nat → Value) (q0 q1 : OpT) (n cut : Int) (xs : List Value) (m : Nat) : chEnd q0 q1 [] [0] N W G G8 G9 V G15 V15 n cut false xs m = chT true false n cut (G9 xs m) := by kernel_rfl
theorem ch_endD (N : Int → Int → Int) (W : Int → Int → Int → Int → Int → Int) (G : Int → Int → Int → Int → Int → Bool) (G8 : Int → Int → Bool) (G9 : List Value → Nat → Bool) (V : List Value → Nat → Value) (G15 : List Value → Nat → Bool) (V15 : List Value → Nat → Value) (q0 q1 : OpT) (n cut : Int) (xs : List Value) (m : Nat) : chEnd q0 q1 [] [] N W G G8 G9 V G15 V15 n cut false xs m = chT false true n cut (G9 xs m) := by kernel_rfl
theorem moreI {l : List Item} {k : Nat} (h : l.length = k) (hk : k ≤ 1000000) : moreG (itemsC l).length k 6 20 = true :=
  moreG_eq (by rw [itemsC, flat_len itemC_len, h]) (by omega) (by omega)
/-! ### The items -/
def chW (op a b c i : Int) : Int := if op = 28 then 51 + a * 128 + b * 32768 else if op = 1 then 4151 + a * 128 else if op = 18 then 8227 + b * 32768 + c * 1048576 else 8323
theorem chG_of {op a b c i w : Int} (h : PureOK Try.prog 13 [.int .i64 op, .int .i64 a, .int .i64 b, .int .i64 c, .int .u32 i] (.int .u32 w)) (e : chW op a b c i = w) : lwG chW op a b c i = true :=
  isPure_of (by rw [e]; exact h) (plains_gh rfl)
theorem ch0 : lwG chW 13 1 0 0 0 = true := chG_of w_Lw_1_0_0_0 (by decide)
theorem chAdd : ∀ j : Nat, j < 20 → lwG chW 28 (Int.ofNat (j + 2)) (Int.ofNat (j + 1)) 0 0 = true ∧ dec (chW 28 (Int.ofNat (j + 2)) (Int.ofNat (j + 1)) 0 0) = (⟨28, Int.ofNat (j + 2), Int.ofNat (j + 1), 0, 0, 0, false, false⟩, true)
  | 0, _ => ⟨chG_of w_Add_2_1_0_0 (by decide), d_Add_2_1_0_0⟩
  | 1, _ => ⟨chG_of w_Add_3_2_0_0 (by decide), d_Add_3_2_0_0⟩
  | 2, _ => ⟨chG_of w_Add_4_3_0_0 (by decide), d_Add_4_3_0_0⟩
  | 3, _ => ⟨chG_of w_Add_5_4_0_0 (by decide), d_Add_5_4_0_0⟩
  | 4, _ => ⟨chG_of w_Add_6_5_0_0 (by decide), d_Add_6_5_0_0⟩
  | 5, _ => ⟨chG_of w_Add_7_6_0_0 (by decide), d_Add_7_6_0_0⟩
  | 6, _ => ⟨chG_of w_Add_8_7_0_0 (by decide), d_Add_8_7_0_0⟩
  | 7, _ => ⟨chG_of w_Add_9_8_0_0 (by decide), d_Add_9_8_0_0⟩
  | 8, _ => ⟨chG_of w_Add_10_9_0_0 (by decide), d_Add_10_9_0_0⟩
  | 9, _ => ⟨chG_of w_Add_11_10_0_0 (by decide), d_Add_11_10_0_0⟩
  | 10, _ => ⟨chG_of w_Add_12_11_0_0 (by decide), d_Add_12_11_0_0⟩
  | 11, _ => ⟨chG_of w_Add_13_12_0_0 (by decide), d_Add_13_12_0_0⟩
  | 12, _ => ⟨chG_of w_Add_14_13_0_0 (by decide), d_Add_14_13_0_0⟩
  | 13, _ => ⟨chG_of w_Add_15_14_0_0 (by decide), d_Add_15_14_0_0⟩
  | 14, _ => ⟨chG_of w_Add_16_15_0_0 (by decide), d_Add_16_15_0_0⟩
  | 15, _ => ⟨chG_of w_Add_17_16_0_0 (by decide), d_Add_17_16_0_0⟩
  | 16, _ => ⟨chG_of w_Add_18_17_0_0 (by decide), d_Add_18_17_0_0⟩
  | 17, _ => ⟨chG_of w_Add_19_18_0_0 (by decide), d_Add_19_18_0_0⟩
  | 18, _ => ⟨chG_of w_Add_20_19_0_0 (by decide), d_Add_20_19_0_0⟩
  | 19, _ => ⟨chG_of w_Add_21_20_0_0 (by decide), d_Add_21_20_0_0⟩
  | n + 20, h => absurd h (by omega)
theorem chLui : ∀ j : Nat, j < 20 → lwG chW 1 (Int.ofNat (j + 2)) 0 0 4096 = true ∧ dec (chW 1 (Int.ofNat (j + 2)) 0 0 4096) = (⟨1, Int.ofNat (j + 2), 0, 0, 0, 4096, false, false⟩, true)
  | 0, _ => ⟨chG_of w_Lui_2_0_0_4096 (by decide), d_Lui_2_0_0_4096⟩
  | 1, _ => ⟨chG_of w_Lui_3_0_0_4096 (by decide), d_Lui_3_0_0_4096⟩
  | 2, _ => ⟨chG_of w_Lui_4_0_0_4096 (by decide), d_Lui_4_0_0_4096⟩
  | 3, _ => ⟨chG_of w_Lui_5_0_0_4096 (by decide), d_Lui_5_0_0_4096⟩
  | 4, _ => ⟨chG_of w_Lui_6_0_0_4096 (by decide), d_Lui_6_0_0_4096⟩
  | 5, _ => ⟨chG_of w_Lui_7_0_0_4096 (by decide), d_Lui_7_0_0_4096⟩
  | 6, _ => ⟨chG_of w_Lui_8_0_0_4096 (by decide), d_Lui_8_0_0_4096⟩
  | 7, _ => ⟨chG_of w_Lui_9_0_0_4096 (by decide), d_Lui_9_0_0_4096⟩
  | 8, _ => ⟨chG_of w_Lui_10_0_0_4096 (by decide), d_Lui_10_0_0_4096⟩
  | 9, _ => ⟨chG_of w_Lui_11_0_0_4096 (by decide), d_Lui_11_0_0_4096⟩
  | 10, _ => ⟨chG_of w_Lui_12_0_0_4096 (by decide), d_Lui_12_0_0_4096⟩
  | 11, _ => ⟨chG_of w_Lui_13_0_0_4096 (by decide), d_Lui_13_0_0_4096⟩
  | 12, _ => ⟨chG_of w_Lui_14_0_0_4096 (by decide), d_Lui_14_0_0_4096⟩
  | 13, _ => ⟨chG_of w_Lui_15_0_0_4096 (by decide), d_Lui_15_0_0_4096⟩
  | 14, _ => ⟨chG_of w_Lui_16_0_0_4096 (by decide), d_Lui_16_0_0_4096⟩
  | 15, _ => ⟨chG_of w_Lui_17_0_0_4096 (by decide), d_Lui_17_0_0_4096⟩
  | 16, _ => ⟨chG_of w_Lui_18_0_0_4096 (by decide), d_Lui_18_0_0_4096⟩
  | 17, _ => ⟨chG_of w_Lui_19_0_0_4096 (by decide), d_Lui_19_0_0_4096⟩
  | 18, _ => ⟨chG_of w_Lui_20_0_0_4096 (by decide), d_Lui_20_0_0_4096⟩
  | 19, _ => ⟨chG_of w_Lui_21_0_0_4096 (by decide), d_Lui_21_0_0_4096⟩
  | n + 20, h => absurd h (by omega)
theorem chSwA : ∀ j : Nat, j < 20 → lwG chW 18 0 (Int.ofNat (j + 2)) 0 0 = true ∧ dec (chW 18 0 (Int.ofNat (j + 2)) 0 0) = (⟨18, 0, Int.ofNat (j + 2), 0, 0, 0, false, false⟩, true)
  | 0, _ => ⟨chG_of w_Sw_0_2_0_0 (by decide), d_Sw_0_2_0_0⟩
  | 1, _ => ⟨chG_of w_Sw_0_3_0_0 (by decide), d_Sw_0_3_0_0⟩
  | 2, _ => ⟨chG_of w_Sw_0_4_0_0 (by decide), d_Sw_0_4_0_0⟩
  | 3, _ => ⟨chG_of w_Sw_0_5_0_0 (by decide), d_Sw_0_5_0_0⟩
  | 4, _ => ⟨chG_of w_Sw_0_6_0_0 (by decide), d_Sw_0_6_0_0⟩
  | 5, _ => ⟨chG_of w_Sw_0_7_0_0 (by decide), d_Sw_0_7_0_0⟩
  | 6, _ => ⟨chG_of w_Sw_0_8_0_0 (by decide), d_Sw_0_8_0_0⟩
  | 7, _ => ⟨chG_of w_Sw_0_9_0_0 (by decide), d_Sw_0_9_0_0⟩
  | 8, _ => ⟨chG_of w_Sw_0_10_0_0 (by decide), d_Sw_0_10_0_0⟩
  | 9, _ => ⟨chG_of w_Sw_0_11_0_0 (by decide), d_Sw_0_11_0_0⟩
  | 10, _ => ⟨chG_of w_Sw_0_12_0_0 (by decide), d_Sw_0_12_0_0⟩
  | 11, _ => ⟨chG_of w_Sw_0_13_0_0 (by decide), d_Sw_0_13_0_0⟩
  | 12, _ => ⟨chG_of w_Sw_0_14_0_0 (by decide), d_Sw_0_14_0_0⟩
  | 13, _ => ⟨chG_of w_Sw_0_15_0_0 (by decide), d_Sw_0_15_0_0⟩
  | 14, _ => ⟨chG_of w_Sw_0_16_0_0 (by decide), d_Sw_0_16_0_0⟩
  | 15, _ => ⟨chG_of w_Sw_0_17_0_0 (by decide), d_Sw_0_17_0_0⟩
  | 16, _ => ⟨chG_of w_Sw_0_18_0_0 (by decide), d_Sw_0_18_0_0⟩
  | 17, _ => ⟨chG_of w_Sw_0_19_0_0 (by decide), d_Sw_0_19_0_0⟩
  | 18, _ => ⟨chG_of w_Sw_0_20_0_0 (by decide), d_Sw_0_20_0_0⟩
  | 19, _ => ⟨chG_of w_Sw_0_21_0_0 (by decide), d_Sw_0_21_0_0⟩
  | n + 20, h => absurd h (by omega)
theorem chSwD : ∀ j : Nat, j < 20 → lwG chW 18 0 0 (Int.ofNat (j + 2)) 0 = true ∧ dec (chW 18 0 0 (Int.ofNat (j + 2)) 0) = (⟨18, 0, 0, Int.ofNat (j + 2), 0, 0, false, false⟩, true)
  | 0, _ => ⟨chG_of w_Sw_0_0_2_0 (by decide), d_Sw_0_0_2_0⟩
  | 1, _ => ⟨chG_of w_Sw_0_0_3_0 (by decide), d_Sw_0_0_3_0⟩
  | 2, _ => ⟨chG_of w_Sw_0_0_4_0 (by decide), d_Sw_0_0_4_0⟩
  | 3, _ => ⟨chG_of w_Sw_0_0_5_0 (by decide), d_Sw_0_0_5_0⟩
  | 4, _ => ⟨chG_of w_Sw_0_0_6_0 (by decide), d_Sw_0_0_6_0⟩
  | 5, _ => ⟨chG_of w_Sw_0_0_7_0 (by decide), d_Sw_0_0_7_0⟩
  | 6, _ => ⟨chG_of w_Sw_0_0_8_0 (by decide), d_Sw_0_0_8_0⟩
  | 7, _ => ⟨chG_of w_Sw_0_0_9_0 (by decide), d_Sw_0_0_9_0⟩
  | 8, _ => ⟨chG_of w_Sw_0_0_10_0 (by decide), d_Sw_0_0_10_0⟩
  | 9, _ => ⟨chG_of w_Sw_0_0_11_0 (by decide), d_Sw_0_0_11_0⟩
  | 10, _ => ⟨chG_of w_Sw_0_0_12_0 (by decide), d_Sw_0_0_12_0⟩
  | 11, _ => ⟨chG_of w_Sw_0_0_13_0 (by decide), d_Sw_0_0_13_0⟩
  | 12, _ => ⟨chG_of w_Sw_0_0_14_0 (by decide), d_Sw_0_0_14_0⟩
  | 13, _ => ⟨chG_of w_Sw_0_0_15_0 (by decide), d_Sw_0_0_15_0⟩
  | 14, _ => ⟨chG_of w_Sw_0_0_16_0 (by decide), d_Sw_0_0_16_0⟩
  | 15, _ => ⟨chG_of w_Sw_0_0_17_0 (by decide), d_Sw_0_0_17_0⟩
  | 16, _ => ⟨chG_of w_Sw_0_0_18_0 (by decide), d_Sw_0_0_18_0⟩
  | 17, _ => ⟨chG_of w_Sw_0_0_19_0 (by decide), d_Sw_0_0_19_0⟩
  | 18, _ => ⟨chG_of w_Sw_0_0_20_0 (by decide), d_Sw_0_0_20_0⟩
  | 19, _ => ⟨chG_of w_Sw_0_0_21_0 (by decide), d_Sw_0_0_21_0⟩
  | n + 20, h => absurd h (by omega)
def chI (cut : Int) (j : Nat) : Item := mkI (if Int.ofNat (j + 1) = cut then chW 1 (Int.ofNat (j + 2)) 0 0 4096 else chW 28 (Int.ofNat (j + 2)) (Int.ofNat (j + 1)) 0 0)
def chL (cut : Int) (k : Nat) : List Item := mkI 8323 :: (List.range k).map (chI cut)
theorem chL_succ (cut : Int) (k : Nat) : chL cut (k + 1) = chL cut k ++ [chI cut k] := by simp [chL, List.range_succ]
theorem chL_len (cut : Int) (k : Nat) : (chL cut k).length = k + 1 := by simp [chL]
theorem itemsC_snoc (l : List Item) (x : Item) : itemsC (l ++ [x]) = itemsC l ++ itemC x := by simp [itemsC]
theorem runF_snoc (l : List Item) (x : Item) : runF (l ++ [x]) = itemF (runF l) x := by simp [runF]
def chR (cut : Int) (k : Nat) : List Int := if 1 ≤ cut ∧ cut ≤ Int.ofNat k then [] else [0]
theorem jn_chR (cut : Int) (k : Nat) : jn (chR cut k ++ []) = chR cut k := by
  rw [List.append_nil]
  unfold chR
  split
  · exact jn_nil
  · exact jn_one 0
theorem upd_ne {α : Type} {R : Nat → α} {r i : Nat} {v : α} (h : i ≠ r) : upd R r v i = R i := if_neg h
theorem upd_eq {α : Type} {R : Nat → α} {r : Nat} {v : α} : upd R r v r = v := if_pos rfl
theorem ofNat_ne (k : Nat) : (Int.ofNat (k + 2) == 0) = false := beq_eq_false_iff_ne.2 (by simp; omega)
theorem ch_state (cut : Int) : ∀ k, k ≤ 20 → (runF (chL cut k)).R 0 = [] ∧ (runF (chL cut k)).R (k + 1) = chR cut k ∧ (runF (chL cut k)).ctrl = [] ∧ ∃ q, (runF (chL cut k)).ops = [⟨q, [], [], []⟩] := by
  intro k
  induction k with
  | zero =>
    intro _
    have e : runF (chL cut 0) = itemF St.nil (mkI 8323) := rfl
    rw [e, itemF_inst (x := mkI 8323) d_Lw_1_0_0_0 rfl, inst_lw _ _ _ _ _ _ rfl]
    refine ⟨rfl, ?_, rfl, _, rfl⟩
    have : chR cut 0 = [0] := by unfold chR; rw [if_neg (by simp; omega)]
    rw [this]; rfl
  | succ k ih =>
    intro hk
    obtain ⟨h1, h2, h3, q, h4⟩ := ih (by omega)
    rw [chL_succ, runF_snoc]
    unfold chI
    by_cases hc : Int.ofNat (k + 1) = cut
    · rw [if_pos hc, itemF_inst (x := mkI (chW 1 (Int.ofNat (k + 2)) 0 0 4096)) (chLui k (by omega)).2 rfl, inst_lui _ _ _ _ _ _ (ofNat_ne k)]
      refine ⟨(upd_ne (r := k + 2) (v := []) (by omega)).trans h1, ?_, h3, q, h4⟩
      have : chR cut (k + 1) = [] := by unfold chR; rw [if_pos (by simp at hc ⊢; omega)]
      rw [this]; exact upd_eq (r := k + 2)
    · rw [if_neg hc, itemF_inst (x := mkI (chW 28 (Int.ofNat (k + 2)) (Int.ofNat (k + 1)) 0 0)) (chAdd k (by omega)).2 rfl, inst_add _ _ _ _ _ _ (ofNat_ne k)]
      refine ⟨(upd_ne (r := k + 2) (v := jn ((runF (chL cut k)).R (k + 1) ++ (runF (chL cut k)).R 0)) (by omega)).trans h1, ?_, h3, q, h4⟩
      have : chR cut (k + 1) = chR cut k := by
        unfold chR
        simp at hc
        by_cases hh : 1 ≤ cut ∧ cut ≤ Int.ofNat k
        · rw [if_pos hh, if_pos (by simp at hh ⊢; omega)]
        · rw [if_neg hh, if_neg (by simp at hh ⊢; omega)]
      rw [this]
      show upd _ (Int.ofNat (k + 2)).toNat _ (k + 2) = _
      rw [show (Int.ofNat (k + 2)).toNat = k + 2 from rfl, show (Int.ofNat (k + 1)).toNat = k + 1 from rfl, show (0 : Int).toNat = 0 from rfl, h1, h2, jn_chR]
      exact upd_eq
/-! ### Put together -/
def nilVV : List Value → Nat → Value := fun _ _ => nilV
theorem OK0 : CtxOK Try.prog (ctx (lwΦ numF chW (lwG chW) lwG8 (lwG9 9 nilVV) nilVV (lwG9 15 nilVV) nilVV)) := lwΦ_ok chW nilVV nilVV
theorem hg8 (a : Int) : lwG8 a 20 = true := rfl
theorem chF_gh (n cut : Int) (addr : Bool) (i j m : Nat) (k : Int) : ∀ e ∈ chF n cut addr (sl i m 6) k, ((chF n cut addr (sl j m 6) k).get e.1 = some e.2 ∧ Gh e.2) ∨ ∃ m' z, 0 < z ∧ (chF n cut addr (sl j m 6) k).get e.1 = some (.slice (some ⟨j, 0, none⟩) m' z) ∧ e.2 = .slice (some ⟨i, 0, none⟩) m' z := fun e he => by
  simp only [chF, List.mem_cons, List.not_mem_nil, or_false] at he
  rcases he with rfl | rfl | rfl | rfl | rfl | rfl
  · exact .inl ⟨rfl, gh_int _ _⟩
  · exact .inl ⟨rfl, gh_int _ _⟩
  · exact .inl ⟨rfl, Gh.plain rfl⟩
  · exact .inl ⟨rfl, Gh.plain rfl⟩
  · exact .inr ⟨_, 6, by omega, rfl, rfl⟩
  · exact .inl ⟨rfl, gh_int _ _⟩
theorem ch_hd (n0 cut : Int) (addr : Bool) (m : Nat) (hm : w64 (numF n0 20 + 1) = Int.ofNat (m + 1)) : GoOK Try.prog 0 0 103 (chP 0 7) (enterF 0 [.int .i64 n0, .int .i64 cut, .bool addr]) [] .normal (chF (Int.ofNat (m + 1)) cut addr (sl 0 (0 + 1) 6) (Int.ofNat (0 + 1))) [some ⟨itemsC (chL cut 0), 37, none⟩] := by
  have h := ch_head numF chW (lwG chW) lwG8 (lwG9 9 nilVV) nilVV (lwG9 15 nilVV) nilVV n0 cut addr
  rw [hg8, ch0, hm, cond_true, cond_true] at h
  have e : itemsC (chL cut 0) = itemC (mkI (chW 13 1 0 0 0)) := rfl
  rw [e]
  exact RowOK.go (RowOK.of_seeA OK0 (m := 20) (j := 20) (f := 4) (p := keeps 4) (ts := [0, 1, 2, 7, 8, 9]) rfl (ch_dr1 _ _ _ _ _ _ _ _) h)
theorem ch_round (cut : Int) (addr : Bool) (m : Nat) (hm : m < 20) (k : Nat) (hk : k < m + 1) : GcOK Try.prog 0 0 103 chB (chF (Int.ofNat (m + 1)) cut addr (sl 0 (k + 1) 6) (Int.ofNat (k + 1))) [some ⟨itemsC (chL cut k), 37, none⟩] .normal (chF (Int.ofNat (m + 1)) cut addr (sl 0 (k + 1 + 1) 6) (Int.ofNat (k + 1 + 1))) [some ⟨itemsC (chL cut (k + 1)), 37, none⟩] := by
  have h := ch_rnd numF chW (lwG chW) lwG8 (lwG9 9 nilVV) nilVV (lwG9 15 nilVV) nilVV (Int.ofNat (m + 1)) cut addr (k + 1) k (itemsC (chL cut k))
  have ew : w64 (Int.ofNat (k + 1) + 1) = Int.ofNat (k + 2) := w64_of (by simp; omega) (by simp; omega)
  rw [ew, decide_eq_true (show Int.ofNat (k + 1) ≤ Int.ofNat (m + 1) by simp; omega), (chAdd k (by omega)).1, (chLui k (by omega)).1, moreI (chL_len cut k) (by omega)] at h
  simp only [cond_true] at h
  have h' : chRun numF chW (lwG chW) lwG8 (lwG9 9 nilVV) nilVV (lwG9 15 nilVV) nilVV (flat chB) (chF (Int.ofNat (m + 1)) cut addr (sl 0 (k + 1) 6) (Int.ofNat (k + 1))) [some ⟨itemsC (chL cut k), 37, none⟩] [0, 1, 2, 7, 8, 9] =
      some (.normal, (chF (Int.ofNat (m + 1)) cut addr (sl 2 (k + 1 + 1) 6) (Int.ofNat (k + 1 + 1))).map (fun e => some e.2), appH (itemsC (chL cut k)) (chI cut k).word) := by
    rw [h]
    unfold chI
    by_cases hc : Int.ofNat (k + 1) = cut
    · rw [if_pos hc, show (Int.ofNat (k + 1) == cut) = true by rw [hc]; simp, cond_true]; simp only [mkI]
    · rw [if_neg hc, beq_eq_false_iff_ne.2 hc, cond_false]; simp only [mkI]
  have r := RowOK.go (base := 0) (RowOK.of_seeA OK0 (m := 20) (j := 20) (f := 4) (p := keeps 4) (ts := [0, 1, 2, 7, 8, 9]) rfl (ch_dr2 _ _ _ _ _ _ _ _) h')
  have ei : itemsC (chL cut (k + 1)) = itemsC (chL cut k) ++ itemC (mkI (chI cut k).word) := by rw [chL_succ, itemsC_snoc]; rfl
  refine GoOK.code (GoOK.one r 2 (b := ⟨itemsC (chL cut (k + 1)), 37, none⟩) (by rw [ei]; rfl) rfl (itemsC_gh _) (chF_gh _ _ _ _ _ _ _))
theorem ch_hend (cut : Int) (addr : Bool) (m : Nat) : GcOK Try.prog 0 0 103 chB (chF (Int.ofNat (m + 1)) cut addr (sl 0 (m + 1 + 1) 6) (Int.ofNat (m + 1 + 1))) [some ⟨itemsC (chL cut (m + 1)), 37, none⟩] (.exit 0) (chF (Int.ofNat (m + 1)) cut addr (sl 0 (m + 1 + 1) 6) (Int.ofNat (m + 1 + 1))) [some ⟨itemsC (chL cut (m + 1)), 37, none⟩] := by
  have h := ch_rnd numF chW (lwG chW) lwG8 (lwG9 9 nilVV) nilVV (lwG9 15 nilVV) nilVV (Int.ofNat (m + 1)) cut addr (m + 1 + 1) (m + 1) (itemsC (chL cut (m + 1)))
  rw [decide_eq_false (show ¬ Int.ofNat (m + 1 + 1) ≤ Int.ofNat (m + 1) by simp; omega), cond_false] at h
  exact GoOK.code (RowOK.go (RowOK.of_seeA OK0 (m := 20) (j := 20) (f := 4) (p := keeps 4) (ts := [0, 1, 2, 7, 8, 9]) rfl (ch_dr2 _ _ _ _ _ _ _ _) h))
theorem ch_loop (cut : Int) (addr : Bool) (m : Nat) (hm : m < 20) : GoOK Try.prog 0 0 103 [.block 0 (.loop chB)] (chF (Int.ofNat (m + 1)) cut addr (sl 0 (0 + 1) 6) (Int.ofNat (0 + 1))) [some ⟨itemsC (chL cut 0), 37, none⟩] .normal (chF (Int.ofNat (m + 1)) cut addr (sl 0 (m + 1 + 1) 6) (Int.ofNat (m + 1 + 1))) [some ⟨itemsC (chL cut (m + 1)), 37, none⟩] :=
  (GcOK.block (id := 0) (GcOK.loop (P := Try.prog) (lo := 0) (base := 0) (n := 103) (c := chB) (fun k => chF (Int.ofNat (m + 1)) cut addr (sl 0 (k + 1) 6) (Int.ofNat (k + 1))) (fun k => [some ⟨itemsC (chL cut k), 37, none⟩]) (m + 1) (e := .exit 0) (by intro h; cases h) (ch_round cut addr m hm) (ch_hend cut addr m))).row
def chSw (addr : Bool) (m : Nat) : Int := bif addr then chW 18 0 (Int.ofNat (m + 2)) 0 0 else chW 18 0 0 (Int.ofNat (m + 2)) 0
def chAll (cut : Int) (addr : Bool) (m : Nat) : List Item := chL cut (m + 1) ++ [mkI (chSw addr m)]
theorem chAll_len (cut : Int) (addr : Bool) (m : Nat) : (chAll cut addr m).length = m + 1 + 1 + 1 := by simp [chAll, chL_len]
theorem ch_lastG (cut : Int) (addr : Bool) (m : Nat) (hm20 : m < 20) : GoOK Try.prog 0 0 103 (chP 8 2) (chF (Int.ofNat (m + 1)) cut addr (sl 0 (m + 1 + 1) 6) (Int.ofNat (m + 1 + 1))) [some ⟨itemsC (chL cut (m + 1)), 37, none⟩] .normal (chG (Int.ofNat (m + 1)) cut addr (gs 6 (itemsC (chAll cut addr m)) (chAll cut addr m).length)) [] := by
  have ew : w64 (Int.ofNat (m + 1) + 1) = Int.ofNat (m + 2) := w64_of (by simp; omega) (by simp; omega)
  have h := ch_last numF chW (lwG chW) lwG8 (lwG9 9 nilVV) nilVV (lwG9 15 nilVV) nilVV (Int.ofNat (m + 1)) cut addr (m + 1) (itemsC (chL cut (m + 1)))
  rw [ew, (chSwA m hm20).1, (chSwD m hm20).1, moreI (chL_len cut (m + 1)) (by omega)] at h
  simp only [cond_true] at h
  have h' : chRun numF chW (lwG chW) lwG8 (lwG9 9 nilVV) nilVV (lwG9 15 nilVV) nilVV (chP 8 2) (chG (Int.ofNat (m + 1)) cut addr (sl 0 (m + 1 + 1) 6)) [some ⟨itemsC (chL cut (m + 1)), 37, none⟩] [0, 1, 2, 7, 8] =
      some (.normal, (chG (Int.ofNat (m + 1)) cut addr (sl 2 (m + 1 + 1 + 1) 6)).map (fun e => some e.2), appH (itemsC (chL cut (m + 1))) (chSw addr m)) := by
    rw [h]
    cases addr <;> simp only [cond_true, cond_false, chSw]
  have r := RowOK.go (base := 0) (RowOK.of_seeA OK0 (m := 20) (j := 20) (f := 4) (p := keeps 4) (ts := [0, 1, 2, 7, 8]) rfl (ch_dr3 _ _ _ _ _ _ _ _) h')
  have lc : itemsC (chAll cut addr m) = itemsC (chL cut (m + 1)) ++ itemC (mkI (chSw addr m)) := itemsC_snoc _ _
  have lcl : (itemsC (chAll cut addr m)).length = (m + 1 + 1 + 1) * 6 := by rw [itemsC, flat_len itemC_len, chAll_len]
  have r0 : GoOK Try.prog 0 0 103 [] (chF (Int.ofNat (m + 1)) cut addr (sl 0 (m + 1 + 1) 6) (Int.ofNat (m + 1 + 1))) [some ⟨itemsC (chL cut (m + 1)), 37, none⟩] .normal (chG (Int.ofNat (m + 1)) cut addr (sl 0 (m + 1 + 1) 6)) [some ⟨itemsC (chL cut (m + 1)), 37, none⟩] :=
    RowOK.go (RowOK.nil.slots (fun e he => by
      simp only [chG, List.mem_cons, List.not_mem_nil, or_false] at he
      rcases he with rfl | rfl | rfl | rfl | rfl <;> rfl))
  refine GoOK.freeze (GoOK.app r0 r) (fun e he => ?_)
  simp only [chG, List.mem_cons, List.not_mem_nil, or_false] at he
  rcases he with rfl | rfl | rfl | rfl | rfl
  · exact ⟨_, rfl, .inl ⟨rfl, gh_int _ _⟩⟩
  · exact ⟨_, rfl, .inl ⟨rfl, gh_int _ _⟩⟩
  · exact ⟨_, rfl, .inl ⟨rfl, Gh.plain rfl⟩⟩
  · exact ⟨_, rfl, .inl ⟨rfl, Gh.plain rfl⟩⟩
  · refine ⟨sl 2 (m + 1 + 1 + 1) 6, rfl, .inr (.inl ⟨2, m + 1 + 1 + 1, 6, itemsC (chAll cut addr m), 37, by omega, rfl, by rw [lc]; rfl, by rw [lcl]; exact Nat.le_refl _, itemsC_gh _, ?_⟩)⟩
    rw [chAll_len, List.take_of_length_le (by rw [lcl]; exact Nat.le_refl _)]
theorem ch_ops (cut : Int) (addr : Bool) (m : Nat) (hm20 : m < 20) : ∃ q0 q1, (runF (chAll cut addr m)).ops = [⟨q0, [], [], []⟩, ⟨q1, bif addr then chR cut (m + 1) else [], bif addr then [] else chR cut (m + 1), []⟩] := by
  obtain ⟨s1, s2, s3, q0, s4⟩ := ch_state cut (m + 1) (by omega)
  unfold chAll
  rw [runF_snoc]
  cases addr with
  | true =>
    have e : mkI (chSw true m) = mkI (chW 18 0 (Int.ofNat (m + 2)) 0 0) := rfl
    rw [e, itemF_inst (x := mkI (chW 18 0 (Int.ofNat (m + 2)) 0 0)) (chSwA m hm20).2 rfl, inst_sw]
    refine ⟨q0, (opF 18 0 false false 0 0 0 false).1, ?_⟩
    show (runF (chL cut (m + 1))).ops ++ [⟨_, (runF (chL cut (m + 1))).R (m + 2), (runF (chL cut (m + 1))).R 0, (runF (chL cut (m + 1))).ctrl⟩] = _
    rw [s1, s2, s3, s4]; rfl
  | false =>
    have e : mkI (chSw false m) = mkI (chW 18 0 0 (Int.ofNat (m + 2)) 0) := rfl
    rw [e, itemF_inst (x := mkI (chW 18 0 0 (Int.ofNat (m + 2)) 0)) (chSwD m hm20).2 rfl, inst_sw]
    refine ⟨q0, (opF 18 0 false false 0 0 0 false).1, ?_⟩
    show (runF (chL cut (m + 1))).ops ++ [⟨_, (runF (chL cut (m + 1))).R 0, (runF (chL cut (m + 1))).R (m + 2), (runF (chL cut (m + 1))).ctrl⟩] = _
    rw [s1, s2, s3, s4]; rfl
theorem chT_eq {n cut : Int} {t f : Bool} (hh : t = true ∧ ¬ (1 ≤ cut ∧ cut ≤ n) ∨ f = true ∧ (1 ≤ cut ∧ cut ≤ n)) : chT t f n cut true = some (.ret, [some (.bool true)], []) := by
  unfold chT
  rw [cond_true]
  rcases hh with ⟨rfl, hh⟩ | ⟨rfl, hh⟩
  · by_cases h1 : cut < 1
    · rw [decide_eq_true h1, cond_true]
    · rw [decide_eq_false h1, cond_false, decide_eq_true (by omega), cond_true]
  · rw [decide_eq_false (by omega), cond_false, decide_eq_false (by omega), cond_false]
theorem ch_endAll (q0 q1 : OpT) (cut : Int) (addr : Bool) (m : Nat) (G9 : List Value → Nat → Bool) (xs : List Value) (l : Nat) (hg : G9 xs l = true) (V : List Value → Nat → Value) (G15 : List Value → Nat → Bool) :
    chEnd q0 q1 (bif addr then chR cut (m + 1) else []) (bif addr then [] else chR cut (m + 1)) numF chW (lwG chW) lwG8 G9 V G15 nilVV (Int.ofNat (m + 1)) cut addr xs l = some (.ret, [some (.bool true)], []) := by
  by_cases hh : 1 ≤ cut ∧ cut ≤ Int.ofNat (m + 1)
  · have er : chR cut (m + 1) = [] := by unfold chR; rw [if_pos hh]
    rw [er]
    cases addr with
    | true => simp only [cond_true]; rw [ch_endB, hg]; exact chT_eq (.inr ⟨rfl, hh⟩)
    | false => simp only [cond_false]; rw [ch_endD, hg]; exact chT_eq (.inr ⟨rfl, hh⟩)
  · have er : chR cut (m + 1) = [0] := by unfold chR; rw [if_neg hh]
    rw [er]
    cases addr with
    | true => simp only [cond_true]; rw [ch_endA, hg]; exact chT_eq (.inl ⟨rfl, hh⟩)
    | false => simp only [cond_false]; rw [ch_endC, hg]; exact chT_eq (.inl ⟨rfl, hh⟩)
theorem ch_fin (cut : Int) (addr : Bool) (m : Nat) (hm20 : m < 20) : GoOK Try.prog 0 0 103 (chP 10 10) (chG (Int.ofNat (m + 1)) cut addr (gs 6 (itemsC (chAll cut addr m)) (chAll cut addr m).length)) [] .ret [(6, .bool true)] [] := by
  obtain ⟨q0, q1, hops⟩ := ch_ops cut addr m hm20
  have op := opsOK (chAll cut addr m) (by rw [chAll_len]; omega)
  rw [hops] at op
  have gq : lwG9 9 (chV q0 q1 (bif addr then chR cut (m + 1) else []) (bif addr then [] else chR cut (m + 1))) (itemsC (chAll cut addr m)) (chAll cut addr m).length = true := isPure_of op (gs_gh1 _ _)
  have run := ch_endAll q0 q1 cut addr m _ _ _ gq nilVV (lwG9 15 nilVV)
  unfold chEnd at run
  have OK1 := lwΦ_ok chW (chV q0 q1 (bif addr then chR cut (m + 1) else []) (bif addr then [] else chR cut (m + 1))) nilVV
  obtain ⟨e1, F1, H1, g1, g2⟩ := runL_sound (OK1.at_ 4) (fun lo f args H K r h => callK_sound OK1 20 lo f args H K r h) (chP 10 10) (ch_dr4 _ _ _ _ _ _ _ _) _ _ _ run
  simp only [Option.some.injEq, Prod.mk.injEq, List.cons.injEq, and_true] at g1
  obtain ⟨rfl, g3⟩ := g1
  refine GoOK.freeze (RowOK.go g2) (fun e he => ?_)
  rw [List.mem_singleton] at he
  subst he
  exact ⟨_, g3, .inl ⟨rfl, Gh.plain rfl⟩⟩
theorem ch_pure (n0 cut : Int) (addr : Bool) : PureOK Try.prog 4 [.int .i64 n0, .int .i64 cut, .bool addr] (.bool true) := by
  obtain ⟨fn, f1, f2, f3, f4⟩ := fnOf fn4
  obtain ⟨n1, n2⟩ := num_lt n0 20 (by omega) (by omega)
  obtain ⟨m, hm, hm20⟩ : ∃ m : Nat, w64 (numF n0 20 + 1) = Int.ofNat (m + 1) ∧ m < 20 := ⟨(numF n0 20).toNat, by rw [w64_of (by omega) (by omega)]; simp; omega, by omega⟩
  have all := (ch_hd n0 cut addr m hm).app ((ch_loop cut addr m hm20).app ((ch_lastG cut addr m hm20).app (ch_fin cut addr m hm20)))
  rw [← ch_flat] at all
  have hc := CallOK.of_go noOK (f := 4) (fn := fn) (c := bodyOf 4) (args := [.int .i64 n0, .int .i64 cut, .bool addr]) (l := [.bool true]) (H := []) f1 f2 (by rw [f3]; simp) (by rw [f3]; exact GoOK.code all) (.inr rfl) (by rw [f4]; rfl)
  exact PureOK.of_call hc (Gh.plain rfl)
end Go.Proofs.Ytbcikaoklpekhaa.Ab
