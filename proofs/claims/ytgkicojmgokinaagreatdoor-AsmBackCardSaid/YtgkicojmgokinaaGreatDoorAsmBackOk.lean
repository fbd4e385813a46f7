/- corrallaw5.AsmBack answers true: words told as lines, and read, are the same words; else the first that is none is named. -/
import Derived.Test.YtgkicojmgokinaaGreatDoorAsmLines
import Derived.Test.YtgkicojmgokinaaGreatDoorAsmBad
namespace Go.Proofs.YtgkicojmgokinaaGreatDoor.Ab
open Go Go.RowKit
set_option linter.unusedVariables false
set_option linter.unusedSimpArgs false
set_option maxRecDepth 100000
/-! ### What a line is read as -/
theorem immV_w {w : Int} (h : W32 w) : W32 (immV 73 w) ∧ W32 (immV 83 w) ∧ W32 (immV 66 w) ∧ W32 (immV 85 w) ∧ W32 (immV 74 w) := by
  refine ⟨?_, ?_, ?_, ?_, ?_⟩
  · rw [show immV 73 w = immI bitV w by simp [immV], immI_eq h]; exact rvW_I h
  · rw [show immV 83 w = immS bitV w by simp [immV], immS_eq h]; exact rvW_S h
  · rw [show immV 66 w = immB bitV w by simp [immV], immB_eq h]; exact rvW_B h
  · rw [show immV 85 w = immU bitV w by simp [immV], immU_eq h]; exact rvW_U h
  · rw [show immV 74 w = immJ bitV w by simp [immV], immJ_eq h]; exact rvW_J h
theorem fl_w {w d m : Int} (n : Nat) (h : W32 w) (hm : m = 2 ^ n - 1) (h0 : 0 < d) (hn : n ≤ 31) : 0 ≤ Isa.fl w d m ∧ Isa.fl w d m < 4294967296 := by
  rw [fl_lit n h hm h0 (by omega)]
  have hp : (0 : Int) < 2 ^ n := by exact_mod_cast Nat.two_pow_pos n
  have hb : (2 : Int) ^ n ≤ 2147483648 := by
    have : (2 : Nat) ^ n ≤ 2 ^ 31 := Nat.pow_le_pow_right (by decide) hn
    have h2 : ((2 ^ n : Nat) : Int) ≤ ((2 ^ 31 : Nat) : Int) := by exact_mod_cast this
    simpa using h2
  exact ⟨Int.emod_nonneg _ (by omega), by have := Int.emod_lt_of_pos (w / d) hp; omega⟩
theorem decI_wf {form op w : Int} (h : W32 w) (hf : 0 ≤ form ∧ form ≤ 13) : (Isa.decI form op w).wf := by
  obtain ⟨i1, i2, i3, i4, i5⟩ := immV_w h
  have hforms : form = 0 ∨ form = 1 ∨ form = 2 ∨ form = 3 ∨ form = 4 ∨ form = 5 ∨ form = 6 ∨ form = 7 ∨ form = 8 ∨ form = 9 ∨ form = 10 ∨ form = 11 ∨ form = 12 ∨ form = 13 := by omega
  rcases hforms with rfl | rfl | rfl | rfl | rfl | rfl | rfl | rfl | rfl | rfl | rfl | rfl | rfl | rfl
  · exact i4
  · exact i5
  · exact i1
  · exact i3
  · exact i2
  · exact fl_w 5 h (by decide) (by decide) (by decide)
  · exact ⟨Int.le_refl 0, by show (0 : Int) < 4294967296; decide⟩
  · exact fl_w 8 h (by decide) (by decide) (by decide)
  · exact ⟨Int.le_refl 0, by show (0 : Int) < 4294967296; decide⟩
  · exact ⟨Int.le_refl 0, by show (0 : Int) < 4294967296; decide⟩
  · exact ⟨Int.le_refl 0, by show (0 : Int) < 4294967296; decide⟩
  · exact fl_w 5 h (by decide) (by decide) (by decide)
  · exact ⟨Int.le_refl 0, by show (0 : Int) < 4294967296; decide⟩
  · exact ⟨Int.le_refl 0, by show (0 : Int) < 4294967296; decide⟩
theorem dec_wf {w : Int} (h : W32 w) (hd : (Isa.dec w).2 = true) : (Isa.dec w).1.wf := by
  obtain ⟨r, hr, hf, e⟩ := decL_true (l := Isa.table) hd
  have hz := List.all_eq_true.1 rowZ_all r hr
  have e' : Isa.dec w = (Isa.decI r.form r.op w, true) := e
  rw [e']
  simp only [rowZ, Bool.and_eq_true, decide_eq_true_eq] at hz
  exact decI_wf h ⟨hz.2.2.1, hz.2.2.2.1⟩
theorem name_first : ∀ k : Nat, k < 69 → ((names.getD k []).head?).any (fun b => b != 46) = true := by decide
theorem parse_raw (w : Int) : parB (rawS w) = false := by
  cases hp : parB (rawS w) with
  | false => rfl
  | true =>
    obtain ⟨h1, h2⟩ := par_inv hp
    have hop : isOp (parI (rawS w)).op = true := (enc_good h1).fits.op
    simp only [isOp, Bool.and_eq_true, decide_eq_true_eq] at hop
    have hn := name_first ((parI (rawS w)).op - 1).toNat (by omega)
    have e : textL (parI (rawS w)) = wdL ++ hx8 w := by
      have h3 : bs (textL (parI (rawS w))) = bs (wdL ++ hx8 w) := h2
      have h4 := congrArg ByteArray.toList h3
      rwa [Lib.toList_data, Lib.toList_data] at h4
    have e2 := congrArg List.head? e
    have h5 : (textL (parI (rawS w))).head? = (nameF (parI (rawS w)).op).head? := by
      unfold textL
      rw [List.append_assoc, List.append_assoc]
      cases hnm : nameF (parI (rawS w)).op with
      | nil =>
        unfold nameF at hnm
        rw [hnm] at hn
        cases hn
      | cons b r => rfl
    rw [h5] at e2
    unfold nameF at e2
    rw [e2] at hn
    cases hn
theorem line_par {w : Int} (h : W32 w) : parB (lineS w) = (Isa.dec w).2 ∧ ((Isa.dec w).2 = true → wordOf (lineS w) = w) := by
  unfold lineS
  cases hd : (Isa.dec w).2 with
  | true =>
    obtain ⟨h1, h2⟩ := encE_dec h hd
    obtain ⟨p1, p2⟩ := par_text h1 (dec_wf h hd)
    refine ⟨p1, fun _ => ?_⟩
    show encW (parI (textS (Isa.dec w).1)) = w
    rw [p2, h2]
  | false => exact ⟨parse_raw w, fun h => by cases h⟩
/-! ### The calls -/
noncomputable def bkΦ (ls : List ByteArray) (w2 : List Int) (k : Int) (b : Bool) (G16 Gg Gb : Value → Bool) (B : Int → Bool) (D : Int → Inst) (Rw : Int → ByteArray) (G22 : Value → Value → Bool) : Oracle := fun lo f args H => match f with
  | 8 => match args with
    | [] => some [(true, .bool true, H)]
    | _ => none
  | 16 => match args with
    | [v] => some [(G16 v, LS ls, H)]
    | _ => none
  | 17 => match lo, args, H with
    | 0, [v], [] => some [(Gg v, .tuple #[LW w2, .nilIface], []), (Gb v, .tuple #[nilV, .iface 89 (ptr 0)], [some ⟨prE k, 91, none⟩])]
    | _, _, _ => none
  | 18 => match args with
    | [.int .u32 w] => some [(bif b then B w else !B w, .tuple #[instV (D w), .bool b], H)]
    | _ => none
  | 21 => match args with
    | [.int .u32 w] => some [(true, .string (Rw w), H)]
    | _ => none
  | 22 => match args with
    | [u, v] => some [(G22 u v, .bool true, H)]
    | _ => none
  | _ => none
noncomputable def g16 (ls : List ByteArray) (v : Value) : Bool := isPure 16 [v] (LS ls)
noncomputable def gGood (w2 : List Int) (v : Value) : Bool := isPure 17 [v] (.tuple #[LW w2, .nilIface])
noncomputable def g22 (u v : Value) : Bool := isPure 22 [u, v] (.bool true)
theorem bkΦ_ok2 (ls : List ByteArray) (w2 : List Int) (k : Int) (b : Bool) {Gg : Value → Bool} (hG : ∀ v, true = Gg v → true = gGood w2 v) : CtxOK Tryz.prog (ctx (bkΦ ls w2 k b (g16 ls) Gg (fun v => isBad v k) (fun w => (rdec w).2) (fun w => (rdec w).1) rawS g22)) := ctxOK fun lo f args H l v H' h hm => by
  unfold bkΦ at h
  split at h
  · split at h
    · cases h
      simp only [List.mem_cons, List.not_mem_nil, or_false, Prod.mk.injEq] at hm
      obtain ⟨hc, rfl, rfl⟩ := hm
      exact ⟨firstOK.call (fun a h => by cases h) lo H', rfl⟩
    · cases h
  · split at h
    · cases h
      simp only [List.mem_cons, List.not_mem_nil, or_false, Prod.mk.injEq] at hm
      obtain ⟨hc, rfl, rfl⟩ := hm
      exact ⟨isPure_call hc lo H', rfl⟩
    · cases h
  · split at h
    · cases h
      simp only [List.mem_cons, List.not_mem_nil, or_false, Prod.mk.injEq] at hm
      rcases hm with ⟨hc, rfl, rfl⟩ | ⟨hc, rfl, rfl⟩
      · exact ⟨isPure_call (hG _ hc) 0 [], rfl⟩
      · exact ⟨@of_decide_eq_true _ (Classical.propDecidable _) hc.symm, rfl⟩
    · cases h
  · split at h
    · rename_i w
      cases h
      simp only [List.mem_cons, List.not_mem_nil, or_false, Prod.mk.injEq] at hm
      obtain ⟨hc, rfl, rfl⟩ := hm
      have hb : (rdec w).2 = b := by
        cases b with
        | true => exact hc.symm
        | false => simpa using hc.symm
      have := rdecodeOK w
      rw [hb] at this
      exact ⟨this.call (gh_plains rfl) lo H', rfl⟩
    · cases h
  · split at h
    · cases h
      simp only [List.mem_cons, List.not_mem_nil, or_false, Prod.mk.injEq] at hm
      obtain ⟨hc, rfl, rfl⟩ := hm
      exact ⟨(rawOK _).call (gh_plains rfl) lo H', rfl⟩
    · cases h
  · split at h
    · cases h
      simp only [List.mem_cons, List.not_mem_nil, or_false, Prod.mk.injEq] at hm
      obtain ⟨hc, rfl, rfl⟩ := hm
      exact ⟨isPure_call hc lo H', rfl⟩
    · cases h
  · cases h
theorem bkΦ_ok (ls : List ByteArray) (w2 : List Int) (k : Int) (b : Bool) : CtxOK Tryz.prog (ctx (bkΦ ls w2 k b (g16 ls) (gGood w2) (fun v => isBad v k) (fun w => (rdec w).2) (fun w => (rdec w).1) rawS g22)) := bkΦ_ok2 ls w2 k b fun v h => h
/-! ### The pieces -/
def blkIn : Option Code → Code
  | some (.block _ c) => c
  | _ => .skip
def condIn : Option Code → Code
  | some (.cond _ a _) => a
  | _ => .skip
noncomputable def P4 (k l : Nat) : List Code := ((flat (bodyOf 4)).drop k).take l
noncomputable def B4 : Code := loopIn (flat (bodyOf 4))[11]?
noncomputable def X4 : Code := blkIn (flat B4)[2]?
noncomputable def Y4 : Code := condIn (flat X4)[2]?
noncomputable def ops15 : Array Oper := opsIn (flat Y4)[0]?
theorem fn4 : sigOf 4 = some (77, [.tmp 2]) := by kernel_rfl
theorem bk_flat : flat (bodyOf 4) = P4 0 7 ++ (P4 7 4 ++ ([.block 0 (.loop B4)] ++ P4 12 2)) := by kernel_rfl
theorem B4_flat : flat B4 = (flat B4).take 2 ++ ([.block 1 X4] ++ (flat B4).drop 3) := by kernel_rfl
theorem X4_flat : flat X4 = (flat X4).take 2 ++ [.cond (.tmp 48) Y4 .skip] := by kernel_rfl
theorem Y4_flat : flat Y4 = [.region 15 ops15 true] ++ [.ret] := by kernel_rfl
def T15 : OT := .pre [0, 1, 2, 3, 4, 5] (.seq 6 (.seq 7 (.seq 8 (.seq 9 (.pre [10, 11, 12, 13, 14, 15, 16, 17] (.seq 18 (.seq 19 (.seq 20 (.seq 21 .done)))))))))
theorem ord15 : ordOK2 ops15 T15 = true := by kernel_rfl
def bkF (ws : List Int) (ls : List ByteArray) (x e : Value) (k : Int) : Fr := [(0, LW ws), (4, LS ls), (5, x), (6, e), (7, .int .i64 k)]
section
variable (ls : List ByteArray) (w2 : List Int) (z : Int) (b : Bool) (G16 Gg Gb : Value → Bool) (B : Int → Bool) (D : Int → Inst) (Rw : Int → ByteArray) (G22 : Value → Value → Bool)
noncomputable def bkRun (l : List Code) (F : Fr) (H : Heap) (see : Exit → Fr → Heap → Res) : Res :=
  runL ((ctx2 (bkΦ ls w2 z b G16 Gg Gb B D Rw G22)).at_ 4) (callK (ctx2 (bkΦ ls w2 z b G16 Gg Gb B D Rw G22)) 20) 20 0 77 4 (keeps 4) l F H see
theorem bk_a (ws : List Int) : bkRun ls w2 z true G16 Gg Gb B D Rw G22 (P4 0 7) (enterF 0 [LW ws]) [] (seeV [2]) = bif decide (Int.ofNat ws.length > 100) then some (.ret, [some (.bool true)], []) else bif G16 (LW ws) then some (.normal, [some (.bool false)], []) else none := by kernel_rfl
theorem bk_b (ws : List Int) : bkRun ls w2 z true G16 Gg Gb B D Rw G22 (P4 0 7) (enterF 0 [LW ws]) [] (seeV [0, 4]) = bif decide (Int.ofNat ws.length > 100) then some (.ret, [some (LW ws), none], []) else bif G16 (LW ws) then some (.normal, [some (LW ws), some (LS ls)], []) else none := by kernel_rfl
theorem bk_p (ws : List Int) : bkRun ls w2 z true G16 Gg Gb B D Rw G22 (P4 7 4) [(0, LW ws), (4, LS ls)] [] (seeA [0, 4, 5, 6, 7]) =
    bif Gg (LS ls) then (bif Int.ofNat ls.length != Int.ofNat ws.length then some (.ret, [some (LW ws), some (LS ls), some (LW w2), some .nilIface, none], []) else some (.normal, (bkF ws ls (LW w2) .nilIface 0).map (fun e => some e.2), [])) else
    bif Gb (LS ls) then (bif Int.ofNat ls.length != Int.ofNat ws.length then some (.ret, [some (LW ws), some (LS ls), some nilV, some (.iface 89 (ptr 0)), none], [some ⟨prE z, 91, none⟩]) else some (.normal, (bkF ws ls nilV (.iface 89 (ptr 0)) 0).map (fun e => some e.2), [some ⟨prE z, 91, none⟩])) else none := by kernel_rfl
theorem bk_rg (ws : List Int) (K : Nat) : bkRun ls w2 z true G16 Gg Gb B D Rw G22 (flat B4) (bkF ws ls (LW w2) .nilIface (Int.ofNat K)) [] (see [0, 4, 5, 6, 7] 0) =
    bif decide (Int.ofNat K < Int.ofNat ws.length) then ldWG ws K (bif B (toInt (ldW ws K)) then some (.normal, (bkF ws ls (LW w2) .nilIface (w64 (Int.ofNat K + 1))).map (fun e => some e.2), []) else none) else some (.exit 0, (bkF ws ls (LW w2) .nilIface (Int.ofNat K)).map (fun e => some e.2), []) := by kernel_rfl
theorem bk_rb (ws : List Int) (K : Nat) : bkRun ls w2 z true G16 Gg Gb B D Rw G22 (flat B4) (bkF ws ls nilV (.iface 89 (ptr 0)) (Int.ofNat K)) [some ⟨prE z, 91, none⟩] (see [0, 4, 5, 6, 7] 1) =
    bif decide (Int.ofNat K < Int.ofNat ws.length) then ldWG ws K (bif B (toInt (ldW ws K)) then some (.normal, (bkF ws ls nilV (.iface 89 (ptr 0)) (w64 (Int.ofNat K + 1))).map (fun e => some e.2), [some ⟨prE z, 91, none⟩]) else none) else some (.exit 0, (bkF ws ls nilV (.iface 89 (ptr 0)) (Int.ofNat K)).map (fun e => some e.2), [some ⟨prE z, 91, none⟩]) := by kernel_rfl
theorem bk_e (ws : List Int) (k : Int) : bkRun ls w2 z true G16 Gg Gb B D Rw G22 (P4 12 2) (bkF ws ls (LW w2) .nilIface k) [] (seeV [2]) = bif G22 (LW w2) (LW ws) then some (.ret, [some (.bool true)], []) else none := by kernel_rfl
theorem bk_x1 (ws : List Int) (K : Nat) : bkRun ls w2 z false G16 Gg Gb B D Rw G22 ((flat B4).take 2) (bkF ws ls nilV (.iface 89 (ptr 0)) (Int.ofNat K)) [some ⟨prE z, 91, none⟩] (seeA [0, 4, 5, 6, 7]) =
    bif decide (Int.ofNat K < Int.ofNat ws.length) then some (.normal, (bkF ws ls nilV (.iface 89 (ptr 0)) (Int.ofNat K)).map (fun e => some e.2), [some ⟨prE z, 91, none⟩]) else some (.exit 0, (bkF ws ls nilV (.iface 89 (ptr 0)) (Int.ofNat K)).map (fun e => some e.2), [some ⟨prE z, 91, none⟩]) := by kernel_rfl
theorem bk_x2 (ws : List Int) (K : Nat) : bkRun ls w2 z false G16 Gg Gb B D Rw G22 ((flat X4).take 2) (bkF ws ls nilV (.iface 89 (ptr 0)) (Int.ofNat K)) [some ⟨prE z, 91, none⟩] (see [0, 4, 5, 6, 7, 48] 1) =
    ldWG ws K (bif !B (toInt (ldW ws K)) then some (.normal, ((bkF ws ls nilV (.iface 89 (ptr 0)) (Int.ofNat K) ++ [(48, Value.bool true)] : Fr)).map (fun e => some e.2), [some ⟨prE z, 91, none⟩]) else none) := by kernel_rfl
theorem bk_x4 (v : Value) : bkRun ls w2 z false G16 Gg Gb B D Rw G22 [.ret] [(2, v)] [] (seeV [2]) = some (.ret, [some v], []) := by kernel_rfl
def hp15 (K : Int) : Heap := [some ⟨prE K, 91, none⟩, some ⟨[.int .i64 105, sl 2 1 1], 49, none⟩, some ⟨[.int .i64 K], 3, none⟩, some ⟨[.int .i64 105, sl 2 1 1], 49, none⟩, some ⟨[.int .i64 105, sl 9 1 1], 49, none⟩, some ⟨[.int .i64 105, sl 9 1 1], 49, none⟩,
  some ⟨[.int .i64 105, nilV], 49, none⟩, some ⟨[.int .i64 105, nilV], 49, none⟩, some ⟨[.int .i64 105, nilV], 49, none⟩, some ⟨[.int .i64 K], 3, none⟩, some ⟨[.int .i64 105, sl 9 1 1], 49, none⟩, some ⟨[.int .i64 105, sl 9 1 1], 49, none⟩, some ⟨[.int .i64 105, sl 2 1 1], 49, none⟩]
def ldS2 (xs : List ByteArray) (k : Nat) (z : Option (List Seen)) : Option (List Seen) := bif decide (Int.ofNat k < Int.ofNat xs.length) && true then bif Nat.blt 0 ((xs.map Value.string).drop (k * 1)).length && isStr (ldS xs k) then z else none else none
def ldW2 (xs : List Int) (k : Nat) (z : Option (List Seen)) : Option (List Seen) := bif decide (Int.ofNat k < Int.ofNat xs.length) && true then bif Nat.blt 0 ((xs.map (Value.int .u32)).drop (k * 1)).length && (shape (.int .u32) (ldW xs k)).1 then z else none else none
theorem bk_o (ws : List Int) (K : Nat) : ordK (ctx2 (bkΦ ls w2 z false G16 Gg Gb B D Rw G22)) (callK (ctx2 (bkΦ ls w2 z false G16 Gg Gb B D Rw G22)) 20) 0 77 ops15.toList T15 (bkF ws ls nilV (.iface 89 (ptr 0)) (Int.ofNat K)) [some ⟨prE (Int.ofNat K), 91, none⟩] (leafO [2]) =
    bif Int.ofNat K == Int.ofNat K then ldS2 ls K (ldW2 ws K (bif (toStr (ldS ls K)).toList == (Rw (toInt (ldW ws K))).toList then some [([some (.bool true)], hp15 (Int.ofNat K))] else some [([some (.bool false)], hp15 (Int.ofNat K))])) else some [([some (.bool false)], hp15 (Int.ofNat K))] := by kernel_rfl
end
theorem bk_d1 : (P4 0 7).all (drawsOK (drs2 4)) = true := by kernel_rfl
theorem bk_d2 : (P4 7 4).all (drawsOK (drs2 4)) = true := by kernel_rfl
theorem bk_d3 : (flat B4).all (drawsOK (drs2 4)) = true := by kernel_rfl
theorem bk_d4 : (P4 12 2).all (drawsOK (drs2 4)) = true := by kernel_rfl
theorem bk_d5 : ((flat B4).take 2).all (drawsOK (drs2 4)) = true := by kernel_rfl
theorem bk_d6 : ((flat X4).take 2).all (drawsOK (drs2 4)) = true := by kernel_rfl
theorem bk_d7 : ([.ret] : List Code).all (drawsOK (drs2 4)) = true := by kernel_rfl
end Go.Proofs.YtgkicojmgokinaaGreatDoor.Ab
namespace Go.Proofs.YtgkicojmgokinaaGreatDoor.Ab
open Go Go.RowKit
set_option linter.unusedVariables false
set_option linter.unusedSimpArgs false
set_option maxRecDepth 100000
theorem ldS2_eq {xs : List ByteArray} {k : Nat} (h : k < xs.length) (z : Option (List Seen)) : ldS2 xs k z = z := by
  unfold ldS2
  rw [ldS_eq h, show (decide (Int.ofNat k < Int.ofNat xs.length) && true) = true by rw [Bool.and_true]; exact decide_eq_true (by simp; omega),
    show (Nat.blt 0 ((xs.map Value.string).drop (k * 1)).length && isStr (.string (xs.getD k noS))) = true by
      rw [Bool.and_eq_true]; exact ⟨by rw [Nat.blt_eq]; simp; omega, rfl⟩]
  rfl
theorem ldW2_eq {xs : List Int} {k : Nat} (h : k < xs.length) (z : Option (List Seen)) : ldW2 xs k z = z := by
  unfold ldW2
  rw [ldW_eq h, show (decide (Int.ofNat k < Int.ofNat xs.length) && true) = true by rw [Bool.and_true]; exact decide_eq_true (by simp; omega),
    show (Nat.blt 0 ((xs.map (Value.int .u32)).drop (k * 1)).length && (shape (.int .u32) (.int .u32 (xs.getD k 0))).1) = true by
      rw [Bool.and_eq_true]; exact ⟨by rw [Nat.blt_eq]; simp; omega, rfl⟩]
  rfl
theorem Tr.iface {k : Nat} {t : TypeId} {v : Value} (h : Tr k v) : Tr k (.iface t v) := fun M u hl hv => by
  cases hv with | iface a => exact .iface (h _ _ hl a)
theorem prE_gh (k : Int) : ∀ x ∈ prE k, Gh x := fun x hx => by
  simp only [prE, List.mem_cons, List.not_mem_nil, or_false] at hx
  rcases hx with rfl | rfl
  · exact gh_int _ _
  · exact gh_err 0
theorem bkF_tr0 (ws : List Int) (ls : List ByteArray) (w2 : List Int) (k : Int) : ∀ x ∈ bkF ws ls (LW w2) .nilIface k, Tr 0 x.2 := fun x hx => by
  simp only [bkF, List.mem_cons, List.not_mem_nil, or_false] at hx
  rcases hx with rfl | rfl | rfl | rfl | rfl
  · exact Tr.gh (LW_gh _)
  · exact Tr.gh (LS_gh _)
  · exact Tr.gh (LW_gh _)
  · exact Tr.plain rfl
  · exact Tr.plain rfl
theorem bkF_tr1 (ws : List Int) (ls : List ByteArray) (k : Int) : ∀ x ∈ bkF ws ls nilV (.iface 89 (ptr 0)) k, Tr 1 x.2 := fun x hx => by
  simp only [bkF, List.mem_cons, List.not_mem_nil, or_false] at hx
  rcases hx with rfl | rfl | rfl | rfl | rfl
  · exact Tr.gh (LW_gh _)
  · exact Tr.gh (LS_gh _)
  · exact Tr.plain rfl
  · exact Tr.iface (Tr.ptr (by omega))
  · exact Tr.plain rfl
theorem bkH_tr (z : Int) : ∀ b, some b ∈ ([some ⟨prE z, 91, none⟩] : Heap) → b.view = none ∧ ∀ x ∈ b.cells, Tr 1 x := fun b hb => by
  simp only [List.mem_cons, List.not_mem_nil, or_false, Option.some.injEq] at hb
  subst hb
  exact ⟨rfl, fun x hx => Tr.gh (prE_gh z x hx)⟩
section
variable {ws : List Int} (hl : ws.length ≤ 100) (hw : ∀ w ∈ ws, W32 w)
include hl hw
theorem at_w {k : Nat} (hk : k < ws.length) : W32 (ws.getD k 0) ∧ toInt (ldW ws k) = ws.getD k 0 ∧ w64 (Int.ofNat k + 1) = Int.ofNat (k + 1) ∧ decide (Int.ofNat k < Int.ofNat ws.length) = true ∧ (ws.map lineS).getD k noS = lineS (ws.getD k 0) :=
  ⟨hw _ (by rw [List.getD_eq_getElem?_getD, List.getElem?_eq_getElem hk]; exact List.getElem_mem hk), by rw [ldW_eq hk]; rfl, w64_of (by simp; omega) (by simp; omega), decide_eq_true (by simp; omega), by
    rw [List.getD_eq_getElem?_getD, List.getElem?_map, List.getElem?_eq_getElem hk, List.getD_eq_getElem?_getD, List.getElem?_eq_getElem hk]; rfl⟩
theorem lines_short : Short (ws.map lineS) := by
  refine ⟨by rw [List.length_map]; omega, fun s hs => ?_⟩
  obtain ⟨w, hw', rfl⟩ := List.mem_map.1 hs
  unfold lineS
  cases hd : (Isa.dec w).2 with
  | true =>
    have := text_len (enc_good (encE_dec (hw w hw') hd).1).fits
    show (textL (Isa.dec w).1).length ≤ 100000
    omega
  | false => show (wdL ++ hx8 w).length ≤ 100000; simp [wdL, hx8]
theorem bk_all_good (hg : ∀ k, k < ws.length → (Isa.dec (ws.getD k 0)).2 = true) : GoOK Tryz.prog 0 0 77 (P4 7 4 ++ ([.block 0 (.loop B4)] ++ P4 12 2)) [(0, LW ws), (4, LS (ws.map lineS))] [] .ret [(2, .bool true)] [] := by
  have hgood : gGood ws (LS (ws.map lineS)) = true := by
    have h := progOK (lines_short hl hw) (fun j hj => by
      rw [List.length_map] at hj
      obtain ⟨h1, h2, h3, h4, h5⟩ := at_w hl hw hj
      rw [h5, (line_par h1).1]; exact hg j hj)
    have e : (ws.map lineS).map wordOf = ws := by
      rw [List.map_map]
      conv => rhs; rw [← List.map_id ws]
      refine List.map_congr_left fun w hw' => ?_
      obtain ⟨k, hk, rfl⟩ := List.getElem_of_mem hw'
      have := hg k hk
      rw [List.getD_eq_getElem?_getD, List.getElem?_eq_getElem hk] at this
      exact (line_par (hw _ hw')).2 this
    rw [e] at h
    exact isPure_of h (fun a ha => by simp at ha; subst ha; exact LS_gh _)
  have h1 := bk_p (ws.map lineS) ws 0 (g16 (ws.map lineS)) (gGood ws) (fun v => isBad v 0) (fun w => (rdec w).2) (fun w => (rdec w).1) rawS g22 ws
  rw [hgood, cond_true, List.length_map, bne_self_eq_false, cond_false] at h1
  have g1 := RowOK.go (base := 0) (RowOK.of_seeA (F2 := bkF ws (ws.map lineS) (LW ws) .nilIface 0) (ctx2OK (bkΦ_ok (ws.map lineS) ws 0 true)) (m := 20) (j := 20) (f := 4) (p := keeps 4) (ts := [0, 4, 5, 6, 7]) rfl bk_d2 h1)
  have rnd : ∀ k, k < ws.length → GcOK Tryz.prog 0 0 77 B4 (bkF ws (ws.map lineS) (LW ws) .nilIface (Int.ofNat k)) [] .normal (bkF ws (ws.map lineS) (LW ws) .nilIface (Int.ofNat (k + 1))) [] := fun k hk => by
    obtain ⟨a1, a2, a3, a4, a5⟩ := at_w hl hw hk
    have h := bk_rg (ws.map lineS) ws 0 (g16 (ws.map lineS)) (gGood ws) (fun v => isBad v 0) (fun w => (rdec w).2) (fun w => (rdec w).1) rawS g22 ws k
    rw [a4, cond_true, ldWG_eq hk, a2, a3, show (rdec (ws.getD k 0)).2 = true by rw [rdec_is a1]; exact hg k hk, cond_true] at h
    exact GoOK.code (RowOK.go (RowOK.of_see (F2 := bkF ws (ws.map lineS) (LW ws) .nilIface (Int.ofNat (k + 1))) (ctx2OK (bkΦ_ok (ws.map lineS) ws 0 true)) (m := 20) (j := 20) (f := 4) (p := keeps 4) (ts := [0, 4, 5, 6, 7]) rfl bk_d3 h (by simp) rfl (bkF_tr0 _ _ _ _) (fun b hb => by simp at hb)))
  have hend : GcOK Tryz.prog 0 0 77 B4 (bkF ws (ws.map lineS) (LW ws) .nilIface (Int.ofNat ws.length)) [] (.exit 0) (bkF ws (ws.map lineS) (LW ws) .nilIface (Int.ofNat ws.length)) [] := by
    have h := bk_rg (ws.map lineS) ws 0 (g16 (ws.map lineS)) (gGood ws) (fun v => isBad v 0) (fun w => (rdec w).2) (fun w => (rdec w).1) rawS g22 ws ws.length
    rw [show decide (Int.ofNat ws.length < Int.ofNat ws.length) = false from decide_eq_false (by simp), cond_false] at h
    exact GoOK.code (RowOK.go (RowOK.of_see (F2 := bkF ws (ws.map lineS) (LW ws) .nilIface (Int.ofNat ws.length)) (ctx2OK (bkΦ_ok (ws.map lineS) ws 0 true)) (m := 20) (j := 20) (f := 4) (p := keeps 4) (ts := [0, 4, 5, 6, 7]) rfl bk_d3 h (by simp) rfl (bkF_tr0 _ _ _ _) (fun b hb => by simp at hb)))
  have lp := (GcOK.block (id := 0) (GcOK.loop (P := Tryz.prog) (lo := 0) (base := 0) (n := 77) (c := B4) (fun k => bkF ws (ws.map lineS) (LW ws) .nilIface (Int.ofNat k)) (fun _ => []) ws.length (e := .exit 0) (by intro h; cases h) rnd hend)).row
  have he := bk_e (ws.map lineS) ws 0 (g16 (ws.map lineS)) (gGood ws) (fun v => isBad v 0) (fun w => (rdec w).2) (fun w => (rdec w).1) rawS g22 ws (Int.ofNat ws.length)
  rw [show g22 (LW ws) (LW ws) = true from isPure_of (sameWordsOK (by omega)) (fun a ha => by simp at ha; subst ha; exact LW_gh _), cond_true] at he
  have g3 := GoOK.of_seeV (F2 := [(2, .bool true)]) (ctx2OK (bkΦ_ok (ws.map lineS) ws 0 true)) (m := 20) (j := 20) (f := 4) (p := keeps 4) (ts := [2]) rfl bk_d4 he (fun x hx => by simp at hx; subst hx; exact Gh.plain rfl)
  exact g1.app (lp.app g3)
theorem bk_all_bad {m : Nat} (hm : m < ws.length) (hg : ∀ k, k < m → (Isa.dec (ws.getD k 0)).2 = true) (hb : (Isa.dec (ws.getD m 0)).2 = false) : GoOK Tryz.prog 0 0 77 (P4 7 4 ++ ([.block 0 (.loop B4)] ++ P4 12 2)) [(0, LW ws), (4, LS (ws.map lineS))] [] .ret [(2, .bool true)] [] := by
  have hbad : isBad (LS (ws.map lineS)) (Int.ofNat m) = true := by
    have h := progBadC (lines_short hl hw) (k := m) (by rw [List.length_map]; exact hm) (fun j hj => by
      obtain ⟨h1, h2, h3, h4, h5⟩ := at_w hl hw (show j < ws.length by omega)
      rw [h5, (line_par h1).1]; exact hg j hj) (by
      obtain ⟨h1, h2, h3, h4, h5⟩ := at_w hl hw hm
      rw [h5, (line_par h1).1]; exact hb)
    exact @decide_eq_true _ (Classical.propDecidable _) h
  have OK := fun b => ctx2OK (bkΦ_ok (ws.map lineS) ws (Int.ofNat m) b)
  -- told with a row that Program does not answer
  have h1 := bk_p (ws.map lineS) ws (Int.ofNat m) (g16 (ws.map lineS)) (fun _ => false) (fun v => isBad v (Int.ofNat m)) (fun w => (rdec w).2) (fun w => (rdec w).1) rawS g22 ws
  have hok : CtxOK Tryz.prog (ctx2 (bkΦ (ws.map lineS) ws (Int.ofNat m) true (g16 (ws.map lineS)) (fun _ => false) (fun v => isBad v (Int.ofNat m)) (fun w => (rdec w).2) (fun w => (rdec w).1) rawS g22)) :=
    ctx2OK (bkΦ_ok2 (ws.map lineS) ws (Int.ofNat m) true fun v h => by cases h)
  rw [cond_false, hbad, cond_true, List.length_map, bne_self_eq_false, cond_false] at h1
  have g1 := RowOK.go (base := 0) (RowOK.of_seeA (F2 := bkF ws (ws.map lineS) nilV (.iface 89 (ptr 0)) 0) hok (m := 20) (j := 20) (f := 4) (p := keeps 4) (ts := [0, 4, 5, 6, 7]) rfl bk_d2 h1)
  have rnd : ∀ k, k < m → GcOK Tryz.prog 0 0 77 B4 (bkF ws (ws.map lineS) nilV (.iface 89 (ptr 0)) (Int.ofNat k)) [some ⟨prE (Int.ofNat m), 91, none⟩] .normal (bkF ws (ws.map lineS) nilV (.iface 89 (ptr 0)) (Int.ofNat (k + 1))) [some ⟨prE (Int.ofNat m), 91, none⟩] := fun k hk => by
    obtain ⟨a1, a2, a3, a4, a5⟩ := at_w hl hw (show k < ws.length by omega)
    have h := bk_rb (ws.map lineS) ws (Int.ofNat m) (g16 (ws.map lineS)) (gGood ws) (fun v => isBad v (Int.ofNat m)) (fun w => (rdec w).2) (fun w => (rdec w).1) rawS g22 ws k
    rw [a4, cond_true, ldWG_eq (by omega), a2, a3, show (rdec (ws.getD k 0)).2 = true by rw [rdec_is a1]; exact hg k hk, cond_true] at h
    exact GoOK.code (RowOK.go (RowOK.of_see (F2 := bkF ws (ws.map lineS) nilV (.iface 89 (ptr 0)) (Int.ofNat (k + 1))) (OK true) (m := 20) (j := 20) (f := 4) (p := keeps 4) (ts := [0, 4, 5, 6, 7]) rfl bk_d3 h (by simp) rfl (bkF_tr1 _ _ _) (bkH_tr _)))
  have hend : GcOK Tryz.prog 0 0 77 B4 (bkF ws (ws.map lineS) nilV (.iface 89 (ptr 0)) (Int.ofNat m)) [some ⟨prE (Int.ofNat m), 91, none⟩] .ret [(2, .bool true)] [] := by
    obtain ⟨a1, a2, a3, a4, a5⟩ := at_w hl hw hm
    have x1 := bk_x1 (ws.map lineS) ws (Int.ofNat m) (g16 (ws.map lineS)) (gGood ws) (fun v => isBad v (Int.ofNat m)) (fun w => (rdec w).2) (fun w => (rdec w).1) rawS g22 ws m
    rw [a4, cond_true] at x1
    have e1 := RowOK.go (base := 0) (RowOK.of_seeA (F2 := bkF ws (ws.map lineS) nilV (.iface 89 (ptr 0)) (Int.ofNat m)) (OK false) (m := 20) (j := 20) (f := 4) (p := keeps 4) (ts := [0, 4, 5, 6, 7]) rfl bk_d5 x1)
    have x2 := bk_x2 (ws.map lineS) ws (Int.ofNat m) (g16 (ws.map lineS)) (gGood ws) (fun v => isBad v (Int.ofNat m)) (fun w => (rdec w).2) (fun w => (rdec w).1) rawS g22 ws m
    rw [ldWG_eq hm, a2, show (rdec (ws.getD m 0)).2 = false by rw [rdec_is a1]; exact hb, Bool.not_false, cond_true] at x2
    have e2 := RowOK.go (base := 0) (RowOK.of_see (F2 := ((bkF ws (ws.map lineS) nilV (.iface 89 (ptr 0)) (Int.ofNat m) ++ [(48, Value.bool true)] : Fr))) (OK false) (m := 20) (j := 20) (f := 4) (p := keeps 4) (ts := [0, 4, 5, 6, 7, 48]) rfl bk_d6 x2 (by simp) rfl (fun x hx => by
      rcases List.mem_append.1 hx with hx | hx
      · exact bkF_tr1 _ _ _ x hx
      · simp at hx; subst hx; exact Tr.plain rfl) (bkH_tr _))
    have o := bk_o (ws.map lineS) ws (Int.ofNat m) (g16 (ws.map lineS)) (gGood ws) (fun v => isBad v (Int.ofNat m)) (fun w => (rdec w).2) (fun w => (rdec w).1) rawS g22 ws m
    have eL : toStr (ldS (ws.map lineS) m) = rawS (ws.getD m 0) := by
      rw [ldS_eq (by rw [List.length_map]; exact hm), a5]
      unfold lineS
      rw [hb]; rfl
    rw [beq_self_eq_true, cond_true, ldS2_eq (by rw [List.length_map]; exact hm), ldW2_eq hm, eL, a2, beq_self_eq_true, cond_true] at o
    have e3 : GoOK Tryz.prog 0 0 77 [.region 15 ops15 true] (bkF ws (ws.map lineS) nilV (.iface 89 (ptr 0)) (Int.ofNat m)) [some ⟨prE (Int.ofNat m), 91, none⟩] .normal [(2, .bool true)] [] := by
      refine GoOK.ordH (OK false) (m := 20) (ts := [2]) ord15 o fun y hy M0 w0 M' a' w' F' h0 hts hA => ?_
      simp only [List.mem_cons, List.not_mem_nil, or_false] at hy
      subst hy
      simp only [List.map_cons, List.map_nil, List.cons.injEq, and_true] at hts
      exact hA.freeze h0 rfl fun e he => by
        simp only [List.mem_cons, List.not_mem_nil, or_false] at he
        subst he
        exact ⟨_, hts, .inl ⟨rfl, Gh.plain rfl⟩⟩
    have e4 := GoOK.of_seeV (F2 := [(2, .bool true)]) (OK false) (m := 20) (j := 20) (f := 4) (p := keeps 4) (ts := [2]) rfl bk_d7 (bk_x4 (ws.map lineS) ws (Int.ofNat m) (g16 (ws.map lineS)) (gGood ws) (fun v => isBad v (Int.ofNat m)) (fun w => (rdec w).2) (fun w => (rdec w).1) rawS g22 (.bool true)) (fun x hx => by simp at hx; subst hx; exact Gh.plain rfl)
    have eY : GcOK Tryz.prog 0 0 77 Y4 (bkF ws (ws.map lineS) nilV (.iface 89 (ptr 0)) (Int.ofNat m) ++ [(48, Value.bool true)]) [some ⟨prE (Int.ofNat m), 91, none⟩] .ret [(2, .bool true)] [] := by
      refine GoOK.code ?_
      rw [Y4_flat]
      refine GoOK.app ?_ e4
      intro M0 w0 M a w hb0 ha Q rest hk
      exact e3 M0 w0 M a w hb0 ⟨ha.rel, fun t v ht => ha.fr t v (by
        have := Fr.get_mem ht
        simp only [bkF, List.mem_cons, List.not_mem_nil, or_false, Prod.mk.injEq] at this
        rcases this with ⟨rfl, rfl⟩ | ⟨rfl, rfl⟩ | ⟨rfl, rfl⟩ | ⟨rfl, rfl⟩ | ⟨rfl, rfl⟩ <;> rfl), ha.size, ha.defers, ha.ext, ha.keep⟩ Q rest hk
    have eX : GcOK Tryz.prog 0 0 77 X4 (bkF ws (ws.map lineS) nilV (.iface 89 (ptr 0)) (Int.ofNat m)) [some ⟨prE (Int.ofNat m), 91, none⟩] .ret [(2, .bool true)] [] := by
      refine GoOK.code ?_
      rw [X4_flat]
      exact e2.app (GcOK.row (GcOK.cond (t := 48) (b := true) rfl eY))
    refine GoOK.code ?_
    rw [B4_flat]
    exact e1.app (GoOK.left (GcOK.row (GcOK.block (id := 1) eX)) (by intro h; cases h) _)
  have lp := (GcOK.block (id := 0) (GcOK.loop (P := Tryz.prog) (lo := 0) (base := 0) (n := 77) (c := B4) (fun k => bkF ws (ws.map lineS) nilV (.iface 89 (ptr 0)) (Int.ofNat k)) (fun _ => [some ⟨prE (Int.ofNat m), 91, none⟩]) m (e := .ret) (by intro h; cases h) rnd hend)).row
  exact g1.app (GoOK.left lp (by intro h; cases h) _)
end
theorem asmBackOK {ws : List Int} (hw : ∀ w ∈ ws, W32 w) : PureOK Tryz.prog 4 [LW ws] (.bool true) := by
  have fin : ∀ (h : GoOK Tryz.prog 0 0 77 (flat (bodyOf 4)) (enterF 0 [LW ws]) [] .ret [(2, .bool true)] []), PureOK Tryz.prog 4 [LW ws] (.bool true) := fun h => by
    obtain ⟨fn, f1, f2, f3, f4⟩ := fnOf fn4
    exact PureOK.of_call (CallOK.of_go noOK (f := 4) (fn := fn) (c := bodyOf 4) (args := [LW ws]) (l := [.bool true]) (H := []) f1 f2 (by rw [f3]; simp) (by rw [f3]; exact GoOK.code h) (.inr rfl) (by rw [f4]; rfl)) (Gh.plain rfl)
  apply fin
  rw [bk_flat]
  have OK := ctx2OK (bkΦ_ok (ws.map lineS) ws 0 true)
  by_cases hl : ws.length > 100
  · have h := bk_a (ws.map lineS) ws 0 (g16 (ws.map lineS)) (gGood ws) (fun v => isBad v 0) (fun w => (rdec w).2) (fun w => (rdec w).1) rawS g22 ws
    rw [show decide (Int.ofNat ws.length > 100) = true from decide_eq_true (by simp; omega), cond_true] at h
    exact GoOK.left (GoOK.of_seeV (F2 := [(2, .bool true)]) OK (m := 20) (j := 20) (f := 4) (p := keeps 4) (ts := [2]) rfl bk_d1 h (fun x hx => by simp at hx; subst hx; exact Gh.plain rfl)) (by intro h; cases h) _
  · have hl' : ws.length ≤ 100 := by omega
    have h := bk_b (ws.map lineS) ws 0 (g16 (ws.map lineS)) (gGood ws) (fun v => isBad v 0) (fun w => (rdec w).2) (fun w => (rdec w).1) rawS g22 ws
    rw [show decide (Int.ofNat ws.length > 100) = false from decide_eq_false (by simp; omega), cond_false, show g16 (ws.map lineS) (LW ws) = true from isPure_of (linesOK (by omega) hw) (fun a ha => by simp at ha; subst ha; exact LW_gh _), cond_true] at h
    have g0 := GoOK.of_seeV (F2 := [(0, LW ws), (4, LS (ws.map lineS))]) OK (m := 20) (j := 20) (f := 4) (p := keeps 4) (ts := [0, 4]) rfl bk_d1 h (fun x hx => by
      simp only [List.mem_cons, List.not_mem_nil, or_false] at hx
      rcases hx with rfl | rfl
      · exact LW_gh _
      · exact LS_gh _)
    refine g0.app ?_
    obtain ⟨m, h1, h2, h3⟩ := Isa.first (fun k => !(Isa.dec (ws.getD k 0)).2) ws.length
    by_cases hm : m < ws.length
    · exact bk_all_bad hl' hw hm (fun k hk => by simpa using h2 k hk) (by simpa using h3 hm)
    · have : m = ws.length := by omega
      subst this
      exact bk_all_good hl' hw fun k hk => by simpa using h2 k hk
end Go.Proofs.YtgkicojmgokinaaGreatDoor.Ab
