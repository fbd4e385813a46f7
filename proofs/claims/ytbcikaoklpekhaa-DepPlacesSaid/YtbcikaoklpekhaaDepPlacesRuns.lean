/- DepPlaces: the runs. Written by gen_places.py. -/
import Derived.Test.YtbcikaoklpekhaaDepNum
namespace Go.Proofs.Ytbcikaoklpekhaa.Ab
open Go Go.RowKit
set_option linter.unusedVariables false
set_option linter.unusedSimpArgs false
set_option maxRecDepth 100000
noncomputable def plP (k l : Nat) : List Code := ((flat (bodyOf 6)).drop k).take l
noncomputable def plB : Code := loopIn (flat (bodyOf 6))[10]?
noncomputable def plRun (N : Int → Int → Int) (W : Int → Int → Int → Int → Int → Int) (G : Int → Int → Int → Int → Int → Bool) (G8 : Int → Int → Bool) (G9 : List Value → Nat → Bool) (V : List Value → Nat → Value) (G15 : List Value → Nat → Bool) (V15 : List Value → Nat → Value) (G14 : Value → Value → Bool) (S : Value → Value → Bool) (l : List Code) (F : Fr) (H : Heap) (ts : List Nat) : Option (Exit × List (Option Value) × Heap) :=
  runL ((ctx (lxΦ N W G G8 G9 V G15 V15 G14 S)).at_ 6) (callK (ctx (lxΦ N W G G8 G9 V G15 V15 G14 S)) 20) 20 0 103 6 (keeps 6) l F H (seeA ts)
theorem fn6 : sigOf 6 = some (103, [.tmp 2]) := by kernel_rfl
theorem pl_flat : flat (bodyOf 6) = plP 0 10 ++ ([.block 0 (.loop plB)] ++ plP 11 2) := by kernel_rfl
def plF (ks : List Int) (l w : Value) (n k : Int) : Fr := [(0, L1 ks), (3, .bool true), (4, l), (5, w), (6, .int .i64 n), (7, .int .i64 k)]
def plE (l w : Value) (n : Int) : Fr := [(3, .bool true), (4, l), (5, w), (6, .int .i64 n)]
/-- The switch. -/
noncomputable def plT (W : Int → Int → Int → Int → Int → Int) (G : Int → Int → Int → Int → Int → Bool) (ks : List Int) (K : Nat) (d x : Int) (lf : Int → Bool → Bool → Bool → Res) : Res :=
  bif d == 0 then bif G 13 1 2 0 0 then lf (W 13 1 2 0 0) false false true else none else
  bif d == 1 then bif G 16 0 2 1 0 then lf (W 16 0 2 1 0) false false true else none else
  bif d == 2 then bif G 38 0 0 0 51 then lf (W 38 0 0 0 51) false false true else none else
  bif d == 3 then bif G 60 1 2 3 0 then ldG ks K (bif bits .and .i64 x 8 == 0 then lf (W 60 1 2 3 0) true false true else lf (W 60 1 2 3 0) false false false) else none else
  bif d == 4 then bif G 61 1 2 3 0 then lf (W 61 1 2 3 0) false false true else none else
  bif d == 5 then bif G 13 1 2 0 0 then lf (W 13 1 2 0 0) false true false else none else
  bif d == 6 then bif G 28 1 2 3 0 then lf (W 28 1 2 3 0) false false false else none else
  ldG ks K (lf (IntKind.u32.wrap (IntKind.u32.wrap x * 128)) false false false)
def plI (w : Int) (dn tr : Bool) : Item := ⟨w, 0, 0, 0, dn, tr⟩
def plN (n : Int) (has : Bool) : Int := bif has then n else -1
def plM (n : Int) (has : Bool) : Int := bif has then w64 (n + 1) else n
section
variable (N : Int → Int → Int) (W : Int → Int → Int → Int → Int → Int) (G : Int → Int → Int → Int → Int → Bool) (G8 : Int → Int → Bool) (G9 : List Value → Nat → Bool) (V : List Value → Nat → Value) (G15 : List Value → Nat → Bool) (V15 : List Value → Nat → Value) (G14 : Value → Value → Bool) (S : Value → Value → Bool)
theorem pl_head (ks : List Int) : plRun N W G G8 G9 V G15 V15 G14 S (plP 0 10) (enterF 0 [L1 ks]) [] [0, 3, 4, 5, 6, 7] =
    bif decide (40 < Int.ofNat ks.length) then some (.ret, [some (L1 ks), some (.bool true), none, none, none, none], []) else some (.normal, (plF ks nilV nilV 0 0).map (fun e => some e.2), []) := by kernel_rfl
theorem pl_head2 (ks : List Int) : plRun N W G G8 G9 V G15 V15 G14 S (plP 0 10) (enterF 0 [L1 ks]) [] [2] =
    bif decide (40 < Int.ofNat ks.length) then some (.ret, [some (.bool true)], []) else some (.normal, [some (.bool false)], []) := by kernel_rfl
theorem pl_rnd0 (ks : List Int) (n : Int) (K : Nat) : plRun N W G G8 G9 V G15 V15 G14 S (flat plB) (plF ks nilV nilV n (Int.ofNat K)) [] [0, 3, 4, 5, 6, 7] =
    bif decide (Int.ofNat K < Int.ofNat ks.length) then ldG ks K (bif G8 (toInt (ldI ks K)) 8 then plT W G ks K (N (toInt (ldI ks K)) 8) (toInt (ldI ks K)) fun w dn tr has =>
      some (.normal, (plF ks (sl 2 1 6) (sl 4 1 1) (plM n has) (w64 (Int.ofNat K + 1))).map (fun e => some e.2), [some ⟨itemC (plI w dn tr), 37, none⟩, some ⟨itemC (plI w dn tr), 37, none⟩, some ⟨itemC (plI w dn tr), 37, none⟩, some ⟨[.int .i64 (plN n has)], 3, none⟩, some ⟨[.int .i64 (plN n has)], 3, none⟩]) else none)
    else some (.exit 0, (plF ks nilV nilV n (Int.ofNat K)).map (fun e => some e.2), []) := by kernel_rfl
theorem pl_rnd1 (ks : List Int) (n : Int) (K m : Nat) (xs ws : List Value) : plRun N W G G8 G9 V G15 V15 G14 S (flat plB) (plF ks (sl 0 (m + 1) 6) (sl 1 (m + 1) 1) n (Int.ofNat K)) [some ⟨xs, 37, none⟩, some ⟨ws, 3, none⟩] [0, 3, 4, 5, 6, 7] =
    bif decide (Int.ofNat K < Int.ofNat ks.length) then ldG ks K (bif G8 (toInt (ldI ks K)) 8 then plT W G ks K (N (toInt (ldI ks K)) 8) (toInt (ldI ks K)) fun w dn tr has =>
      bif moreG xs.length (m + 1) 6 20 then bif moreG ws.length (m + 1) 1 8 then
      some (.normal, (plF ks (sl 4 (m + 1 + 1) 6) (sl 6 (m + 1 + 1) 1) (plM n has) (w64 (Int.ofNat K + 1))).map (fun e => some e.2), [none, none, some ⟨itemC (plI w dn tr), 37, none⟩, some ⟨itemC (plI w dn tr), 37, none⟩, some ⟨xs ++ itemC (plI w dn tr), 37, none⟩, some ⟨[.int .i64 (plN n has)], 3, none⟩, some ⟨ws ++ [.int .i64 (plN n has)], 3, none⟩]) else none else none else none)
    else some (.exit 0, (plF ks (sl 0 (m + 1) 6) (sl 1 (m + 1) 1) n (Int.ofNat K)).map (fun e => some e.2), [some ⟨xs, 37, none⟩, some ⟨ws, 3, none⟩]) := by kernel_rfl
theorem pl_dr1 : (plP 0 10).all (drawsOK ((ctx (lxΦ N W G G8 G9 V G15 V15 G14 S)).dr 6)) = true := by kernel_rfl
theorem pl_dr2 : (flat plB).all (drawsOK ((ctx (lxΦ N W G G8 G9 V G15 V15 G14 S)).dr 6)) = true := by kernel_rfl
theorem pl_dr3 : (plP 11 2).all (drawsOK ((ctx (lxΦ N W G G8 G9 V G15 V15 G14 S)).dr 6)) = true := by kernel_rfl
end
noncomputable def plEnd (aa : List Int) (cs : List Value) (c : Nat) (N : Int → Int → Int) (W : Int → Int → Int → Int → Int → Int) (G : Int → Int → Int → Int → Int → Bool) (G8 : Int → Int → Bool) (G9 : List Value → Nat → Bool) (V : List Value → Nat → Value) (G15 : List Value → Nat → Bool) (V15 : List Value → Nat → Value) (G14 : Value → Value → Bool) (S : Value → Value → Bool) (xs : List Value) (k : Nat) (ws : List Int) (n : Int) : Res :=
  runL ((ctx (lxΦ N W G G8 G9 (fun _ _ => gs 13 cs c) G15 (fun _ _ => L1 aa) G14 S)).at_ 6) (callK (ctx (lxΦ N W G G8 G9 (fun _ _ => gs 13 cs c) G15 (fun _ _ => L1 aa) G14 S)) 20) 20 0 103 6 (keeps 6) (plP 11 2) (plE (gs 6 xs k) (L1 ws) n) [] (seeA [2])
theorem pl_end (N : Int → Int → Int) (W : Int → Int → Int → Int → Int → Int) (G : Int → Int → Int → Int → Int → Bool) (G8 : Int → Int → Bool) (G9 : List Value → Nat → Bool) (V : List Value → Nat → Value) (G15 : List Value → Nat → Bool) (V15 : List Value → Nat → Value) (G14 : Value → Value → Bool) (S : Value → Value → Bool) (aa : List Int) (cs : List Value) (c : Nat) (xs : List Value) (k : Nat) (ws : List Int) (n : Int) : plEnd aa cs c N W G G8 G9 V G15 V15 G14 S xs k ws n =
    bif G15 xs k then bif G14 (L1 aa) (L1 ws) then bif S (L1 aa) (L1 ws) then bif G9 xs k then bif Int.ofNat c == n then some (.ret, [some (.bool true)], []) else some (.ret, [some (.bool false)], []) else none else some (.ret, [some (.bool false)], []) else none else none := by kernel_rfl
end Go.Proofs.Ytbcikaoklpekhaa.Ab
