/- hanger.item in pieces. Written by gen_item.py. -/
import Derived.Test.YtbcikaoklpekhaaDepItemOrc
namespace Go.Proofs.Ytbcikaoklpekhaa.Ab
open Go Go.RowKit
set_option linter.unusedVariables false
set_option linter.unusedSimpArgs false
set_option maxRecDepth 100000
/-- A hanger's cells. -/
def hgC (R : Nat → Value) (c o a : Value) : List Value := [R 0, R 1, R 2, R 3, R 4, R 5, R 6, R 7, R 8, R 9, R 10, R 11, R 12, R 13, R 14, R 15, R 16, R 17, R 18, R 19, R 20, R 21, R 22, R 23, R 24, R 25, R 26, R 27, R 28, R 29, R 30, R 31, c, o, a]
def hgB (R : Nat → Value) (c o a : Value) : Option Blk := some ⟨hgC R c o a, 45, none⟩
def ptr (i : Nat) : Value := .pointer (some ⟨i, 0, none⟩)
def sl (i n z : Nat) : Value := .slice (some ⟨i, 0, none⟩) n z
noncomputable def itP (k l : Nat) : List Code := ((flat (bodyOf 20)).drop k).take l
noncomputable def itRun (l : List Code) (F : Fr) (H : Heap) (ts : List Nat) (k : Nat) : Option (Exit × List (Option Value) × Heap) :=
  runL ((ctx itΦ).at_ 20) (callK (ctx itΦ) 20) 20 0 190 20 (keeps 20) l F H (see ts k)
/-- What is asked where one thing more is put behind a row. -/
def moreG (cells n z b : Nat) : Bool := Nat.beq cells (n * z) && (Nat.ble ((n + 1) * b) 140737488355328 && Nat.ble (n + 1) 9223372036854775807)
def itF1 (b : Bool) : Fr := [(0, ptr 0), (3, ptr 4), (4, ptr 6), (5, .bool b)]
noncomputable def itH1 (R : Nat → Value) (c o : Value) (ob : Option Blk) (n : Nat) (l : List Value) (x : Item) : Heap := [hgB R c o (sl 5 n 1), ob, none, some ⟨itemC x, 37, none⟩, some ⟨itemC x, 37, none⟩, some ⟨l, 3, none⟩, some ⟨instC (dec x.word).1, 53, none⟩]
theorem it1_nil (R : Nat → Value) (c o : Value) (ob : Option Blk) (x : Item) : itRun (itP 0 3) (enterF 0 [ptr 0, .agg ⟨itemC x⟩]) [hgB R c o (.slice none 0 0), ob, none, some ⟨itemC x, 37, none⟩] [0, 3, 4, 5] 7 =
    bif (dec x.word).2 then some (.normal, (itF1 true).map (fun e => some e.2), itH1 R c o ob 1 [.int .i64 (-1)] x) else some (.normal, (itF1 false).map (fun e => some e.2), itH1 R c o ob 1 [.int .i64 (-1)] x) := by kernel_rfl
theorem it1_row (R : Nat → Value) (c o : Value) (ob : Option Blk) (x : Item) (n : Nat) (l : List Value) : itRun (itP 0 3) (enterF 0 [ptr 0, .agg ⟨itemC x⟩]) [hgB R c o (sl 2 (n + 1) 1), ob, some ⟨l, 3, none⟩, some ⟨itemC x, 37, none⟩] [0, 3, 4, 5] 7 =
    bif moreG l.length (n + 1) 1 8 then bif (dec x.word).2 then some (.normal, (itF1 true).map (fun e => some e.2), itH1 R c o ob (n + 2) (l ++ [.int .i64 (-1)]) x) else some (.normal, (itF1 false).map (fun e => some e.2), itH1 R c o ob (n + 2) (l ++ [.int .i64 (-1)]) x) else none := by kernel_rfl
/-- R3: whether it ends here. -/
noncomputable def itH (R : Nat → Value) (c o : Value) (ob : Option Blk) (n : Nat) (l : List Value) (x : Item) (i : Inst) : Heap := [hgB R c o (sl 5 n 1), ob, none, some ⟨itemC x, 37, none⟩, some ⟨itemC x, 37, none⟩, some ⟨l, 3, none⟩, some ⟨instC i, 53, none⟩]
def itF2 (b : Bool) : Fr := [(0, ptr 0), (3, ptr 4), (4, ptr 6), (36, .bool b)]
theorem it2_no (R : Nat → Value) (c o : Value) (ob : Option Blk) (n : Nat) (l : List Value) (x : Item) (i : Inst) : itRun (itP 3 1) (itF1 false) (itH R c o ob n l x i) [0, 3, 4, 36] 7 =
    bif x.trap then some (.normal, (itF2 true).map (fun e => some e.2), itH R c o ob n l x i) else some (.normal, (itF2 true).map (fun e => some e.2), itH R c o ob n l x i) := by kernel_rfl
theorem it2_is (R : Nat → Value) (c o : Value) (ob : Option Blk) (n : Nat) (l : List Value) (x : Item) (i : Inst) : itRun (itP 3 1) (itF1 true) (itH R c o ob n l x i) [0, 3, 4, 36] 7 =
    bif x.trap then some (.normal, (itF2 true).map (fun e => some e.2), itH R c o ob n l x i) else some (.normal, (itF2 false).map (fun e => some e.2), itH R c o ob n l x i) := by kernel_rfl
/-- A register's list. -/
def rgV (R : Nat → Value) (c o a : Value) (r : Int) : Value := (hgC R c o a).getD (0 + r.toNat * 1) undef
def rgG (r : Int) : Bool := decide (0 ≤ r) && decide (r < 32)
def opOf (i : Inst) (x : Item) : OpT × Bool := opF i.op i.imm i.aq i.rl x.pa x.load x.value x.done
def nilV : Value := .slice none 0 0
def itF3 (R : Nat → Value) (c o a : Value) (i : Inst) (b : Bool) : Fr := [(0, ptr 0), (4, ptr 6), (6, .int .i64 (kindF i.op)), (7, rgV R c o a i.rs1), (8, rgV R c o a i.rs2), (9, ptr 7), (11, nilV), (60, .bool b)]
def itH3 (R : Nat → Value) (c o : Value) (ob : Option Blk) (n : Nat) (l : List Value) (x : Item) (i : Inst) : Heap := [hgB R c o (sl 5 n 1), ob, none, some ⟨itemC x, 37, none⟩, some ⟨itemC x, 37, none⟩, some ⟨l, 3, none⟩, some ⟨instC i, 53, none⟩, some ⟨opC (opOf i x).1 nilV nilV nilV, 32, none⟩]
theorem it3 (R : Nat → Value) (c o : Value) (ob : Option Blk) (n : Nat) (l : List Value) (x : Item) (i : Inst) : itRun (itP 5 5) (itF2 false) (itH R c o ob n l x i) [0, 4, 6, 7, 8, 9, 11, 60] 8 =
    bif isOp i.op then bif rgG i.rs1 then bif Nat.blt (0 + i.rs1.toNat * 1) 35 && true then bif rgG i.rs2 then bif Nat.blt (0 + i.rs2.toNat * 1) 35 && true then bif isOp i.op then
    bif (opOf i x).2 then some (.normal, (itF3 R c o (sl 5 n 1) i true).map (fun e => some e.2), itH3 R c o ob n l x i) else some (.normal, (itF3 R c o (sl 5 n 1) i false).map (fun e => some e.2), itH3 R c o ob n l x i)
    else none else none else none else none else none else none := by kernel_rfl
/-! ### Behind it: all blocks told on -/
def seeA (ts : List Nat) (e : Exit) (F : Fr) (H : Heap) : Option (Exit × List (Option Value) × Heap) := some (e, ts.map F.get, H)
theorem RowOK.of_seeA {P : Program} {C : Ctx} (hC : CtxOK P C) {m j lo n f : Nat} {p : Nat → Bool} {l : List Code} {F F2 : Fr} {H H2 : Heap} {e : Exit} {ts : List Nat} (hts : F2.map (·.1) = ts) (hd : l.all (drawsOK (C.dr f)) = true)
    (h : runL (C.at_ f) (callK C m) j lo n f p l F H (seeA ts) = some (e, F2.map (fun e => some e.2), H2)) : RowOK P lo n l F H e F2 H2 := by
  subst hts
  obtain ⟨e1, F1, H1, h1, h2⟩ := runL_sound (hC.at_ f) (call := callK C m) (fun lo f args H K r h => callK_sound hC m lo f args H K r h) l hd F H _ h
  simp only [seeA, Option.some.injEq, Prod.mk.injEq] at h1
  obtain ⟨rfl, h3, rfl⟩ := h1
  exact h2.slots (see_slots h3)
noncomputable def itRunA (l : List Code) (F : Fr) (H : Heap) (ts : List Nat) : Option (Exit × List (Option Value) × Heap) :=
  runL ((ctx itΦ).at_ 20) (callK (ctx itΦ) 20) 20 0 190 20 (keeps 20) l F H (seeA ts)
abbrev Res := Option (Exit × List (Option Value) × Heap)
/-- R9 to R16. -/
def at4 (n : Nat) : Nat := 0 + (w64 (Int.ofNat n - 1)).toNat * 1
def it4V (k : Int) (v1 v2 mv : Value) : Fr := [(0, ptr 0), (4, ptr 6), (6, .int .i64 k), (7, v1), (8, v2), (11, mv)]
noncomputable def it4T (k : Int) (c v1 v2 : Value) (q : OpT) (leaf : Value → Value → Value → Res) : Res :=
  bif okL c then bif q.kind != 4 then bif okL v1 then
    bif k == 5 then bif okL v2 then leaf (L1 (unL v1)) (L1 (unL v2)) (L1 (unL c)) else none else bif k == 6 then bif okL v2 then leaf (L1 (unL v1)) (L1 (unL v2)) (L1 (unL c)) else none else leaf (L1 (unL v1)) nilV (L1 (unL c)) else none
  else bif k == 5 then bif okL v2 then leaf nilV (L1 (unL v2)) (L1 (unL c)) else none else bif k == 6 then bif okL v2 then leaf nilV (L1 (unL v2)) (L1 (unL c)) else none else leaf nilV nilV (L1 (unL c)) else none
def at4G (n : Nat) (l : List Value) (z : Res) : Res := bif decide (0 ≤ w64 (Int.ofNat n - 1)) && decide (w64 (Int.ofNat n - 1) < Int.ofNat n) then bif Nat.blt (at4 n) l.length && true then z else none else none
def it4F (k : Int) (v1 v2 : Value) (b : Bool) : Fr := [(0, ptr 0), (4, ptr 6), (6, .int .i64 k), (7, v1), (8, v2), (9, ptr 7), (11, nilV), (60, .bool b)]
def it4H (R : Nat → Value) (c o : Value) (ob : Option Blk) (n : Nat) (l : List Value) (x : Item) (i : Inst) (op : List Value) : Heap := [hgB R c o (sl 5 n 1), ob, none, some ⟨itemC x, 37, none⟩, some ⟨itemC x, 37, none⟩, some ⟨l, 3, none⟩, some ⟨instC i, 53, none⟩, some ⟨op, 32, none⟩]
theorem it4_nil (R : Nat → Value) (c v1 v2 : Value) (n : Nat) (l : List Value) (x : Item) (i : Inst) (q : OpT) (k : Int) : itRunA (itP 10 1) (it4F k v1 v2 true) (it4H R c nilV none n l x i (opC q nilV nilV nilV)) [0, 4, 6, 7, 8, 11] =
    it4T k c v1 v2 q fun A D C => at4G n l (some (.normal, (it4V k v1 v2 (gs 1 [.int .i64 0] 1)).map (fun e => some e.2), it4H R c (sl 8 1 13) none n (l.set (at4 n) (.int .i64 0)) x i (opC q A D C) ++ [some ⟨opC q A D C, 32, none⟩])) := by kernel_rfl
theorem it4_row (R : Nat → Value) (c v1 v2 : Value) (m n : Nat) (l xs : List Value) (x : Item) (i : Inst) (q : OpT) (k : Int) : itRunA (itP 10 1) (it4F k v1 v2 true) (it4H R c (sl 1 (m + 1) 13) (some ⟨xs, 32, none⟩) n l x i (opC q nilV nilV nilV)) [0, 4, 6, 7, 8, 11] =
    it4T k c v1 v2 q fun A D C => at4G n l (bif moreG xs.length (m + 1) 13 120 then some (.normal, (it4V k v1 v2 (gs 1 [.int .i64 (Int.ofNat (m + 1))] 1)).map (fun e => some e.2), it4H R c (sl 8 (m + 2) 13) none n (l.set (at4 n) (.int .i64 (Int.ofNat (m + 1)))) x i (opC q A D C) ++ [some ⟨xs ++ opC q A D C, 32, none⟩]) else none) := by kernel_rfl
theorem it4_no (R : Nat → Value) (c o v1 v2 : Value) (ob : Option Blk) (n : Nat) (l : List Value) (x : Item) (i : Inst) (op : List Value) (k : Int) : itRunA (itP 10 1) (it4F k v1 v2 false) (it4H R c o ob n l x i op) [0, 4, 6, 7, 8, 11] =
    some (.normal, (it4V k v1 v2 nilV).map (fun e => some e.2), it4H R c o ob n l x i op) := by kernel_rfl
/-- R17, R18. -/
def it5H (R : Nat → Value) (c o a : Value) (b1 b3 b4 b5 : Option Blk) (i : Inst) (T : Heap) : Heap := hgB R c o a :: b1 :: none :: b3 :: b4 :: b5 :: some ⟨instC i, 53, none⟩ :: T
noncomputable def it5J (c v1 v2 : Value) (z : Res) : Res := bif Ab.one c && (Ab.one v1 && (Ab.one v2 && true)) && true then bif okL c && (okL v1 && okL v2) then z else none else none
theorem it5 (R : Nat → Value) (c o a v1 v2 mv : Value) (b1 b3 b4 b5 : Option Blk) (i : Inst) (T : Heap) (k : Int) : itRunA (itP 11 2) (it4V k v1 v2 mv) (it5H R c o a b1 b3 b4 b5 i T) [0, 4, 6, 7, 8, 11] =
    bif k == 3 then it5J c v1 v2 (some (.normal, (it4V k v1 v2 mv).map (fun e => some e.2), it5H R (join3V c v1 v2) o a b1 b3 b4 b5 i T)) else
    bif i.op == 4 then it5J c v1 v2 (some (.normal, (it4V k v1 v2 mv).map (fun e => some e.2), it5H R (join3V c v1 v2) o a b1 b3 b4 b5 i T)) else
    some (.normal, (it4V k v1 v2 mv).map (fun e => some e.2), it5H R c o a b1 b3 b4 b5 i T) := by kernel_rfl
/-- R19, R20: whether it ends here. -/
def dup (b : Bool) (z : Res) : Res := bif b then z else z
theorem it6 (R : Nat → Value) (c o a v1 v2 mv : Value) (b1 b3 b4 b5 : Option Blk) (i : Inst) (T : Heap) (k : Int) : itRunA (itP 13 3) (it4V k v1 v2 mv) (it5H R c o a b1 b3 b4 b5 i T) [0, 4, 6, 7, 8, 11] =
    bif isOp i.op then bif rdF i.op then dup (rs1F i.op) (dup (rs2F i.op) (dup (immB i.op) (bif i.rd == 0 then some (.ret, (it4V k v1 v2 mv).map (fun e => some e.2), it5H R c o a b1 b3 b4 b5 i T) else some (.normal, (it4V k v1 v2 mv).map (fun e => some e.2), it5H R c o a b1 b3 b4 b5 i T))))
    else dup (rs1F i.op) (dup (rs2F i.op) (dup (immB i.op) (some (.ret, (it4V k v1 v2 mv).map (fun e => some e.2), it5H R c o a b1 b3 b4 b5 i T)))) else none := by kernel_rfl
/-- R22 to R25, R21. -/
def it7G (r : Int) (ok : Bool) (z : Res) : Res := bif decide (0 ≤ r) && decide (r < 32) then bif Nat.blt (0 + r.toNat * 1) 35 && ok then z else none else none
def it7S (R : Nat → Value) (c o a v : Value) (b1 b3 b4 b5 : Option Blk) (i : Inst) (T : Heap) : Heap := some ⟨(hgC R c o a).set (0 + i.rd.toNat * 1) v, 45, none⟩ :: b1 :: none :: b3 :: b4 :: b5 :: some ⟨instC i, 53, none⟩ :: T
noncomputable def it7J (v1 v2 : Value) (z : Res) : Res := bif Ab.one v1 && (Ab.one v2 && true) && true then bif okL v1 && okL v2 then z else none else none
def it7E (R : Nat → Value) (c o a mv : Value) (b1 b3 b4 b5 : Option Blk) (i : Inst) (T : Heap) (k : Int) : Res :=
  bif k == 4 then it7G i.rd (Ab.one mv) (some (.normal, [], it7S R c o a mv b1 b3 b4 b5 i T)) else
  bif k == 6 then it7G i.rd (Ab.one mv) (some (.normal, [], it7S R c o a mv b1 b3 b4 b5 i T)) else
  it7G i.rd true (some (.normal, [], it7S R c o a nilV b1 b3 b4 b5 i T))
def dropH (H : Heap) : Heap := List.drop (List.length H) H
theorem dropH_nil (H : Heap) : dropH H = [] := List.drop_length
theorem it7 (R : Nat → Value) (c o a v1 v2 mv : Value) (b1 b3 b4 b5 : Option Blk) (i : Inst) (T : Heap) (k : Int) : itRunA (itP 16 1) (it4V k v1 v2 mv) (it5H R c o a b1 b3 b4 b5 i T) [] =
    bif k == 1 then bif i.op != 1 then bif i.op != 2 then it7J v1 v2 (it7G i.rd true (some (.normal, [], it7S R c o a (join2V v1 v2) b1 b3 b4 b5 i ((T ++ dropH (it5H R c o a b1 b3 b4 b5 i T)) ++ dropH (it5H R c o a b1 b3 b4 b5 i T ++ dropH (it5H R c o a b1 b3 b4 b5 i T))))))
    else it7E R c o a mv b1 b3 b4 b5 i T k else it7E R c o a mv b1 b3 b4 b5 i T k else it7E R c o a mv b1 b3 b4 b5 i T k := by kernel_rfl
end Go.Proofs.Ytbcikaoklpekhaa.Ab
