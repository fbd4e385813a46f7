/- Trimmed: AsmSayText, AsmSayRead -/
import Derived.Test.YtgkicojmgokinaaGreatDoorAsmSayPrint
import Derived.Test.YtgkicojmgokinaaGreatDoorAb15
namespace Go.Proofs.YtgkicojmgokinaaGreatDoor.Ab
open Go Go.RowKit
set_option linter.unusedVariables false
set_option linter.unusedSimpArgs false
set_option maxRecDepth 100000
theorem catT_eq : ∀ (ps : List (List UInt8)) (l : List UInt8), l.length + ps.flatten.length ≤ 10000 → catT (bs l) (ps.map fun p => (true, bs p)) = some (.string (bs (l ++ ps.flatten)))
  | [], l, _ => by simp [catT]
  | p :: ps, l, h => by
    simp only [List.flatten_cons, List.length_append] at h
    simp only [List.map_cons, catT, cond_true]
    rw [show okLen (bs l) (bs p) = true from okLen_of (by omega), cond_true, ← bs_cat, catT_eq ps (l ++ p) (by simp only [List.length_append]; omega)]
    simp
def psL (i : Inst) : Nat → List (List UInt8)
  | 0 => [[32], xL i.rd, [44, 32], Lib.itoa (IntKind.i64.wrap (i.imm.fdiv 4096))]
  | 1 => [[32], xL i.rd, [44, 32], sgL i.imm]
  | 2 => [[32], xL i.rd, [44, 32], sgL i.imm, [40], xL i.rs1, [41]]
  | 3 => [[32], xL i.rs1, [44, 32], xL i.rs2, [44, 32], sgL i.imm]
  | 4 => [[32], xL i.rs2, [44, 32], sgL i.imm, [40], xL i.rs1, [41]]
  | 5 => [[32], xL i.rd, [44, 32], xL i.rs1, [44, 32], sgL i.imm]
  | 6 => [[32], xL i.rd, [44, 32], xL i.rs1, [44, 32], Lib.itoa (IntKind.i64.wrap i.imm)]
  | 7 => [[32], xL i.rd, [44, 32], xL i.rs1, [44, 32], xL i.rs2]
  | 8 => [[32], Lib.itoa (IntKind.i64.wrap (i.imm.fdiv 16)), [44, 32], Lib.itoa (IntKind.i64.wrap (bits .and .u32 i.imm 15))]
  | 9 => []
  | 10 => [[32], xL i.rs1, [44, 32], xL i.rs2]
  | 11 => [[32], xL i.rd, [44, 32, 48, 120], hxL (IntKind.u32.wrap i.csr), [44, 32], xL i.rs1]
  | 12 => [[32], xL i.rd, [44, 32, 48, 120], hxL (IntKind.u32.wrap i.csr), [44, 32], Lib.itoa (IntKind.i64.wrap i.imm)]
  | 13 => [[32], xL i.rd, [44, 32, 40], xL i.rs1, [41]]
  | 14 => [[32], xL i.rd, [44, 32], xL i.rs2, [44, 32, 40], xL i.rs1, [41]]
  | _ => []
theorem psN_eq (i : Inst) (n : Nat) : psN (fun n => bs (xL n)) (fun n => bs (sgL n)) (fun n => bs (Lib.itoa n)) (fun n => bs (hxL n)) i n = (psL i n).map fun p => (true, bs p) := by
  unfold psN psL
  split <;> simp only [in64_wrap] <;> rfl
theorem itoa_pl {w : Int} (h : W32 w) : Lib.itoa (IntKind.i64.wrap w) = plL w := by
  rw [i64_id h, plL_eq h]
  unfold Lib.itoa
  rw [if_neg (by have := h.1; omega)]
theorem sort_form : ∀ k : Nat, k < 69 → sortL.getD k 0 = 8 → formL.getD k 0 = 7 := by decide
theorem sort_le : ∀ k : Nat, k < 69 → sortL.getD k 0 ≤ 14 := by decide
theorem parts_flat {i : Inst} (g : Good i) (hi : i.wf) : (bif partsN i then [] else 32 :: Lib.join (partsL i) [44, 32]) = (psL i (sortF i.op)).flatten := by
  have hop := g.fits.op
  simp only [isOp, Bool.and_eq_true, decide_eq_true_eq] at hop
  have hw : W32 i.imm := hi
  have hs := sort_le (i.op - 1).toNat (by omega)
  have h4 : Lib.itoa (IntKind.i64.wrap (i.imm.fdiv 4096)) = plL (i.imm.fdiv 4096) := by
    refine itoa_pl ?_
    rw [Int.fdiv_eq_ediv_of_nonneg _ (by decide)]
    have := hw.1; have := hw.2
    exact ⟨by omega, by omega⟩
  have h6 := itoa_pl hw
  have h8 : sortF i.op = 8 → Lib.itoa (IntKind.i64.wrap (i.imm.fdiv 16)) = plL (bitV i.imm 4 4) ∧ Lib.itoa (IntKind.i64.wrap (bits .and .u32 i.imm 15)) = plL (bitV i.imm 0 4) := by
    intro e8
    have hf : formF i.op = 7 := sort_form (i.op - 1).toNat (by omega) e8
    have hl := g.lay (by rw [hf]; rfl)
    rw [hf] at hl
    have hlt : i.imm < 256 := by
      have e : (rlayF layV (7 : Nat) i.imm).2 = decide (i.imm < 256) := by simp [rlayF]
      rw [e] at hl
      exact of_decide_eq_true hl
    have b1 : bitV i.imm 4 4 = i.imm / 16 % 16 := bitV_lit hw (by decide) (by decide) (by decide) (by decide)
    have b2 : bitV i.imm 0 4 = i.imm / 1 % 16 := bitV_lit hw (by decide) (by decide) (by decide) (by decide)
    have b3 : bits .and .u32 i.imm 15 = i.imm % 2 ^ 4 := and_lit 4 hw (by decide) (by decide)
    have h0 := hw.1
    rw [b1, b2, b3, Int.fdiv_eq_ediv_of_nonneg _ (by decide)]
    have e1 : i.imm / 16 % 16 = i.imm / 16 := by omega
    have e2 : i.imm / 1 % 16 = i.imm % 2 ^ 4 := by omega
    rw [e1, e2]
    exact ⟨itoa_pl ⟨by omega, by omega⟩, itoa_pl ⟨by omega, by omega⟩⟩
  unfold partsN partsL
  have hs' : sortF i.op ≤ 14 := hs
  generalize hn : sortF i.op = n at *
  have hcase : n = 0 ∨ n = 1 ∨ n = 2 ∨ n = 3 ∨ n = 4 ∨ n = 5 ∨ n = 6 ∨ n = 7 ∨ n = 8 ∨ n = 9 ∨ n = 10 ∨ n = 11 ∨ n = 12 ∨ n = 13 ∨ n = 14 := by omega
  rcases hcase with rfl | rfl | rfl | rfl | rfl | rfl | rfl | rfl | rfl | rfl | rfl | rfl | rfl | rfl | rfl
  · simp [partsL, hn, psL, Lib.join, List.intercalate, h4]
  · simp [partsL, hn, psL, Lib.join, List.intercalate]
  · simp [partsL, hn, psL, Lib.join, List.intercalate, liL]
  · simp [partsL, hn, psL, Lib.join, List.intercalate]
  · simp [partsL, hn, psL, Lib.join, List.intercalate, liL]
  · simp [partsL, hn, psL, Lib.join, List.intercalate]
  · simp [partsL, hn, psL, Lib.join, List.intercalate, h6]
  · simp [partsL, hn, psL, Lib.join, List.intercalate]
  · simp [partsL, hn, psL, Lib.join, List.intercalate, (h8 rfl).1, (h8 rfl).2]
  · simp [partsL, hn, psL]
  · simp [partsL, hn, psL, Lib.join, List.intercalate]
  · simp [partsL, hn, psL, Lib.join, List.intercalate]
  · simp [partsL, hn, psL, Lib.join, List.intercalate, h6]
  · simp [partsL, hn, psL, Lib.join, List.intercalate, liL]
  · simp [partsL, hn, psL, Lib.join, List.intercalate, liL]
theorem nm_l : (List.range 69).all (fun k => (rrowAt k).nm.data.toList == names.getD k []) = true := by kernel_rfl
theorem nm_eq {k : Nat} (h : k < 69) : (rrowAt k).nm = bs (nameF ((k : Int) + 1)) := by
  have := List.all_eq_true.1 nm_l k (List.mem_range.2 h)
  rw [beq_iff_eq] at this
  have e : nameF ((k : Int) + 1) = names.getD k [] := by unfold nameF; congr 1; omega
  rw [e, ← this]
theorem rprintOK {i : Inst} (h : encE i = 0) (hi : i.wf) : PureOK Tryz.prog 11 [instV i] (.string (textS i)) := by
  have g := enc_good h
  have pf := parts_flat g hi
  have tl := text_len g.fits
  have et : textL i = nameF i.op ++ (bif i.aq then [46, 97, 113] else []) ++ (bif i.rl then [46, 114, 108] else []) ++ (psL i (sortF i.op)).flatten := by
    unfold textL; rw [pf]
  have hop := g.fits.op
  simp only [isOp, Bool.and_eq_true, decide_eq_true_eq] at hop
  have key : rpL (fun n => bs (xL n)) (fun n => bs (sgL n)) (fun n => bs (Lib.itoa n)) (fun n => bs (hxL n)) i = some (.string (textS i)) := by
    obtain ⟨op, rd, rs1, rs2, csr, imm, aq, rl⟩ := i
    obtain ⟨k, hk, rfl⟩ : ∃ k : Nat, k < 69 ∧ op = (k : Int) + 1 := ⟨(op - 1).toNat, by simp only at hop; omega, by simp only at hop; omega⟩
    rw [rpAll (fun n => bs (xL n)) (fun n => bs (sgL n)) (fun n => bs (Lib.itoa n)) (fun n => bs (hxL n)) rd rs1 rs2 csr imm aq rl k hk, psN_eq, nm_eq hk]
    rw [et] at tl
    have fin : ∀ l : List UInt8, l.length + (psL ⟨(k : Int) + 1, rd, rs1, rs2, csr, imm, aq, rl⟩ (sortF ((k : Int) + 1))).flatten.length ≤ 10000 →
        rpF ((psL ⟨(k : Int) + 1, rd, rs1, rs2, csr, imm, aq, rl⟩ (sortF ((k : Int) + 1))).map fun p => (true, bs p)) ⟨(k : Int) + 1, rd, rs1, rs2, csr, imm, aq, rl⟩ (bs l) = some (.string (bs (l ++ (psL ⟨(k : Int) + 1, rd, rs1, rs2, csr, imm, aq, rl⟩ (sortF ((k : Int) + 1))).flatten))) := by
      intro l hl
      unfold rpF
      rw [g.fits.rd, g.fits.rs1, g.fits.rs2]
      exact catT_eq _ l hl
    show rpT _ _ _ = some (Value.string (bs (textL ⟨(k : Int) + 1, rd, rs1, rs2, csr, imm, aq, rl⟩)))
    rw [et]
    unfold rpT
    simp only at tl ⊢
    cases aq <;> cases rl <;> simp only [cond_true, cond_false, List.append_nil, List.length_append, List.length_cons, List.length_nil] at tl ⊢
    · rw [fin _ (by omega)]
    · rw [show okLen (bs (nameF ((k : Int) + 1))) rlS = true from okLen_of (a := nameF ((k : Int) + 1)) (b := [46, 114, 108]) (by simp; omega), cond_true, show rlS = bs [46, 114, 108] from rfl, ← bs_cat, fin _ (by simp only [List.length_append, List.length_cons, List.length_nil]; omega)]
    · rw [show okLen (bs (nameF ((k : Int) + 1))) aqS = true from okLen_of (a := nameF ((k : Int) + 1)) (b := [46, 97, 113]) (by simp; omega), cond_true, show aqS = bs [46, 97, 113] from rfl, ← bs_cat, fin _ (by simp only [List.length_append, List.length_cons, List.length_nil]; omega)]
    · rw [show okLen (bs (nameF ((k : Int) + 1))) aqS = true from okLen_of (a := nameF ((k : Int) + 1)) (b := [46, 97, 113]) (by simp; omega), cond_true, show aqS = bs [46, 97, 113] from rfl, show rlS = bs [46, 114, 108] from rfl, ← bs_cat,
        show okLen (bs (nameF ((k : Int) + 1) ++ [46, 97, 113])) (bs [46, 114, 108]) = true from okLen_of (by simp; omega), cond_true, ← bs_cat, fin _ (by simp only [List.length_append, List.length_cons, List.length_nil]; omega)]
  exact PureOK.of_run rpΦ_ok key (Gh.plain rfl)
end Go.Proofs.YtgkicojmgokinaaGreatDoor.Ab

namespace Go.Proofs.YtgkicojmgokinaaGreatDoor.Ab
open Go Go.RowKit
set_option linter.unusedVariables false
set_option linter.unusedSimpArgs false
set_option maxRecDepth 100000
def rdS (n : Nat) (op a b c : Int) : Inst := match n with
  | 0 => ⟨op, a, 0, 0, 0, IntKind.u32.wrap (IntKind.u32.wrap b * 4096), false, false⟩
  | 1 => ⟨op, a, 0, 0, 0, IntKind.u32.wrap b, false, false⟩
  | 2 => ⟨op, a, c, 0, 0, IntKind.u32.wrap b, false, false⟩
  | 3 => ⟨op, 0, a, b, 0, IntKind.u32.wrap c, false, false⟩
  | 4 => ⟨op, 0, c, a, 0, IntKind.u32.wrap b, false, false⟩
  | 5 => ⟨op, a, b, 0, 0, IntKind.u32.wrap c, false, false⟩
  | 6 => ⟨op, a, b, 0, 0, IntKind.u32.wrap c, false, false⟩
  | 7 => ⟨op, a, b, c, 0, 0, false, false⟩
  | 8 => ⟨op, 0, 0, 0, 0, bits .or .u32 (IntKind.u32.wrap (IntKind.u32.wrap a * 16)) (bits .and .u32 (IntKind.u32.wrap b) 15), false, false⟩
  | 10 => ⟨op, 0, a, b, 0, 0, false, false⟩
  | 11 => ⟨op, a, c, 0, b, 0, false, false⟩
  | 12 => ⟨op, a, 0, 0, b, IntKind.u32.wrap c, false, false⟩
  | 13 => ⟨op, a, b, 0, 0, 0, false, false⟩
  | 14 => ⟨op, a, c, b, 0, 0, false, false⟩
  | _ => ⟨op, 0, 0, 0, 0, 0, false, false⟩
def readF (op : Int) (xs : List Int) : Inst := rdS (sortF op) op (xs.getD 0 0) (xs.getD 1 0) (xs.getD 2 0)
noncomputable def rdRun (k : Nat) (v : Value) : Option Value := callK (ctx noΦ) 20 0 43 [.int .i64 ((k : Int) + 1), v] [] (fun v _ => some v)
def rdA (k : Nat) (a b c : Int) : Option Value := some (instV (rdS (sortL.getD k 0) ((k : Int) + 1) a b c))
def RdR (k : Nat) : Prop := rdRun k (gs 1 [] 0) = rdA k 0 0 0 ∧ (∀ a : Int, rdRun k (gs 1 [.int .i64 a] 1) = rdA k a 0 0) ∧ (∀ a b : Int, rdRun k (gs 1 [.int .i64 a, .int .i64 b] 2) = rdA k a b 0) ∧
  ∀ (a b c : Int) (r : List Value) (n : Nat), rdRun k (gs 1 (.int .i64 a :: .int .i64 b :: .int .i64 c :: r) (n + 3)) = bif true && (decide (0 < Int.ofNat (n + 3)) && true) then (bif true && (decide (1 < Int.ofNat (n + 3)) && true) then (bif true && (decide (2 < Int.ofNat (n + 3)) && true) then rdA k a b c else none) else none) else none
theorem rd0 : RdR 0 := ⟨by kernel_rfl, fun _ => by kernel_rfl, fun _ _ => by kernel_rfl, fun _ _ _ _ _ => by kernel_rfl⟩
theorem rd1 : RdR 1 := ⟨by kernel_rfl, fun _ => by kernel_rfl, fun _ _ => by kernel_rfl, fun _ _ _ _ _ => by kernel_rfl⟩
theorem rd2 : RdR 2 := ⟨by kernel_rfl, fun _ => by kernel_rfl, fun _ _ => by kernel_rfl, fun _ _ _ _ _ => by kernel_rfl⟩
theorem rd3 : RdR 3 := ⟨by kernel_rfl, fun _ => by kernel_rfl, fun _ _ => by kernel_rfl, fun _ _ _ _ _ => by kernel_rfl⟩
theorem rd4 : RdR 4 := ⟨by kernel_rfl, fun _ => by kernel_rfl, fun _ _ => by kernel_rfl, fun _ _ _ _ _ => by kernel_rfl⟩
theorem rd5 : RdR 5 := ⟨by kernel_rfl, fun _ => by kernel_rfl, fun _ _ => by kernel_rfl, fun _ _ _ _ _ => by kernel_rfl⟩
theorem rd6 : RdR 6 := ⟨by kernel_rfl, fun _ => by kernel_rfl, fun _ _ => by kernel_rfl, fun _ _ _ _ _ => by kernel_rfl⟩
theorem rd7 : RdR 7 := ⟨by kernel_rfl, fun _ => by kernel_rfl, fun _ _ => by kernel_rfl, fun _ _ _ _ _ => by kernel_rfl⟩
theorem rd8 : RdR 8 := ⟨by kernel_rfl, fun _ => by kernel_rfl, fun _ _ => by kernel_rfl, fun _ _ _ _ _ => by kernel_rfl⟩
theorem rd9 : RdR 9 := ⟨by kernel_rfl, fun _ => by kernel_rfl, fun _ _ => by kernel_rfl, fun _ _ _ _ _ => by kernel_rfl⟩
theorem rd10 : RdR 10 := ⟨by kernel_rfl, fun _ => by kernel_rfl, fun _ _ => by kernel_rfl, fun _ _ _ _ _ => by kernel_rfl⟩
theorem rd11 : RdR 11 := ⟨by kernel_rfl, fun _ => by kernel_rfl, fun _ _ => by kernel_rfl, fun _ _ _ _ _ => by kernel_rfl⟩
theorem rd12 : RdR 12 := ⟨by kernel_rfl, fun _ => by kernel_rfl, fun _ _ => by kernel_rfl, fun _ _ _ _ _ => by kernel_rfl⟩
theorem rd13 : RdR 13 := ⟨by kernel_rfl, fun _ => by kernel_rfl, fun _ _ => by kernel_rfl, fun _ _ _ _ _ => by kernel_rfl⟩
theorem rd14 : RdR 14 := ⟨by kernel_rfl, fun _ => by kernel_rfl, fun _ _ => by kernel_rfl, fun _ _ _ _ _ => by kernel_rfl⟩
theorem rd15 : RdR 15 := ⟨by kernel_rfl, fun _ => by kernel_rfl, fun _ _ => by kernel_rfl, fun _ _ _ _ _ => by kernel_rfl⟩
theorem rd16 : RdR 16 := ⟨by kernel_rfl, fun _ => by kernel_rfl, fun _ _ => by kernel_rfl, fun _ _ _ _ _ => by kernel_rfl⟩
theorem rd17 : RdR 17 := ⟨by kernel_rfl, fun _ => by kernel_rfl, fun _ _ => by kernel_rfl, fun _ _ _ _ _ => by kernel_rfl⟩
theorem rd18 : RdR 18 := ⟨by kernel_rfl, fun _ => by kernel_rfl, fun _ _ => by kernel_rfl, fun _ _ _ _ _ => by kernel_rfl⟩
theorem rd19 : RdR 19 := ⟨by kernel_rfl, fun _ => by kernel_rfl, fun _ _ => by kernel_rfl, fun _ _ _ _ _ => by kernel_rfl⟩
theorem rd20 : RdR 20 := ⟨by kernel_rfl, fun _ => by kernel_rfl, fun _ _ => by kernel_rfl, fun _ _ _ _ _ => by kernel_rfl⟩
theorem rd21 : RdR 21 := ⟨by kernel_rfl, fun _ => by kernel_rfl, fun _ _ => by kernel_rfl, fun _ _ _ _ _ => by kernel_rfl⟩
theorem rd22 : RdR 22 := ⟨by kernel_rfl, fun _ => by kernel_rfl, fun _ _ => by kernel_rfl, fun _ _ _ _ _ => by kernel_rfl⟩
theorem rd23 : RdR 23 := ⟨by kernel_rfl, fun _ => by kernel_rfl, fun _ _ => by kernel_rfl, fun _ _ _ _ _ => by kernel_rfl⟩
theorem rd24 : RdR 24 := ⟨by kernel_rfl, fun _ => by kernel_rfl, fun _ _ => by kernel_rfl, fun _ _ _ _ _ => by kernel_rfl⟩
theorem rd25 : RdR 25 := ⟨by kernel_rfl, fun _ => by kernel_rfl, fun _ _ => by kernel_rfl, fun _ _ _ _ _ => by kernel_rfl⟩
theorem rd26 : RdR 26 := ⟨by kernel_rfl, fun _ => by kernel_rfl, fun _ _ => by kernel_rfl, fun _ _ _ _ _ => by kernel_rfl⟩
theorem rd27 : RdR 27 := ⟨by kernel_rfl, fun _ => by kernel_rfl, fun _ _ => by kernel_rfl, fun _ _ _ _ _ => by kernel_rfl⟩
theorem rd28 : RdR 28 := ⟨by kernel_rfl, fun _ => by kernel_rfl, fun _ _ => by kernel_rfl, fun _ _ _ _ _ => by kernel_rfl⟩
theorem rd29 : RdR 29 := ⟨by kernel_rfl, fun _ => by kernel_rfl, fun _ _ => by kernel_rfl, fun _ _ _ _ _ => by kernel_rfl⟩
theorem rd30 : RdR 30 := ⟨by kernel_rfl, fun _ => by kernel_rfl, fun _ _ => by kernel_rfl, fun _ _ _ _ _ => by kernel_rfl⟩
theorem rd31 : RdR 31 := ⟨by kernel_rfl, fun _ => by kernel_rfl, fun _ _ => by kernel_rfl, fun _ _ _ _ _ => by kernel_rfl⟩
theorem rd32 : RdR 32 := ⟨by kernel_rfl, fun _ => by kernel_rfl, fun _ _ => by kernel_rfl, fun _ _ _ _ _ => by kernel_rfl⟩
theorem rd33 : RdR 33 := ⟨by kernel_rfl, fun _ => by kernel_rfl, fun _ _ => by kernel_rfl, fun _ _ _ _ _ => by kernel_rfl⟩
theorem rd34 : RdR 34 := ⟨by kernel_rfl, fun _ => by kernel_rfl, fun _ _ => by kernel_rfl, fun _ _ _ _ _ => by kernel_rfl⟩
theorem rd35 : RdR 35 := ⟨by kernel_rfl, fun _ => by kernel_rfl, fun _ _ => by kernel_rfl, fun _ _ _ _ _ => by kernel_rfl⟩
theorem rd36 : RdR 36 := ⟨by kernel_rfl, fun _ => by kernel_rfl, fun _ _ => by kernel_rfl, fun _ _ _ _ _ => by kernel_rfl⟩
theorem rd37 : RdR 37 := ⟨by kernel_rfl, fun _ => by kernel_rfl, fun _ _ => by kernel_rfl, fun _ _ _ _ _ => by kernel_rfl⟩
theorem rd38 : RdR 38 := ⟨by kernel_rfl, fun _ => by kernel_rfl, fun _ _ => by kernel_rfl, fun _ _ _ _ _ => by kernel_rfl⟩
theorem rd39 : RdR 39 := ⟨by kernel_rfl, fun _ => by kernel_rfl, fun _ _ => by kernel_rfl, fun _ _ _ _ _ => by kernel_rfl⟩
theorem rd40 : RdR 40 := ⟨by kernel_rfl, fun _ => by kernel_rfl, fun _ _ => by kernel_rfl, fun _ _ _ _ _ => by kernel_rfl⟩
theorem rd41 : RdR 41 := ⟨by kernel_rfl, fun _ => by kernel_rfl, fun _ _ => by kernel_rfl, fun _ _ _ _ _ => by kernel_rfl⟩
theorem rd42 : RdR 42 := ⟨by kernel_rfl, fun _ => by kernel_rfl, fun _ _ => by kernel_rfl, fun _ _ _ _ _ => by kernel_rfl⟩
theorem rd43 : RdR 43 := ⟨by kernel_rfl, fun _ => by kernel_rfl, fun _ _ => by kernel_rfl, fun _ _ _ _ _ => by kernel_rfl⟩
theorem rd44 : RdR 44 := ⟨by kernel_rfl, fun _ => by kernel_rfl, fun _ _ => by kernel_rfl, fun _ _ _ _ _ => by kernel_rfl⟩
theorem rd45 : RdR 45 := ⟨by kernel_rfl, fun _ => by kernel_rfl, fun _ _ => by kernel_rfl, fun _ _ _ _ _ => by kernel_rfl⟩
theorem rd46 : RdR 46 := ⟨by kernel_rfl, fun _ => by kernel_rfl, fun _ _ => by kernel_rfl, fun _ _ _ _ _ => by kernel_rfl⟩
theorem rd47 : RdR 47 := ⟨by kernel_rfl, fun _ => by kernel_rfl, fun _ _ => by kernel_rfl, fun _ _ _ _ _ => by kernel_rfl⟩
theorem rd48 : RdR 48 := ⟨by kernel_rfl, fun _ => by kernel_rfl, fun _ _ => by kernel_rfl, fun _ _ _ _ _ => by kernel_rfl⟩
theorem rd49 : RdR 49 := ⟨by kernel_rfl, fun _ => by kernel_rfl, fun _ _ => by kernel_rfl, fun _ _ _ _ _ => by kernel_rfl⟩
theorem rd50 : RdR 50 := ⟨by kernel_rfl, fun _ => by kernel_rfl, fun _ _ => by kernel_rfl, fun _ _ _ _ _ => by kernel_rfl⟩
theorem rd51 : RdR 51 := ⟨by kernel_rfl, fun _ => by kernel_rfl, fun _ _ => by kernel_rfl, fun _ _ _ _ _ => by kernel_rfl⟩
theorem rd52 : RdR 52 := ⟨by kernel_rfl, fun _ => by kernel_rfl, fun _ _ => by kernel_rfl, fun _ _ _ _ _ => by kernel_rfl⟩
theorem rd53 : RdR 53 := ⟨by kernel_rfl, fun _ => by kernel_rfl, fun _ _ => by kernel_rfl, fun _ _ _ _ _ => by kernel_rfl⟩
theorem rd54 : RdR 54 := ⟨by kernel_rfl, fun _ => by kernel_rfl, fun _ _ => by kernel_rfl, fun _ _ _ _ _ => by kernel_rfl⟩
theorem rd55 : RdR 55 := ⟨by kernel_rfl, fun _ => by kernel_rfl, fun _ _ => by kernel_rfl, fun _ _ _ _ _ => by kernel_rfl⟩
theorem rd56 : RdR 56 := ⟨by kernel_rfl, fun _ => by kernel_rfl, fun _ _ => by kernel_rfl, fun _ _ _ _ _ => by kernel_rfl⟩
theorem rd57 : RdR 57 := ⟨by kernel_rfl, fun _ => by kernel_rfl, fun _ _ => by kernel_rfl, fun _ _ _ _ _ => by kernel_rfl⟩
theorem rd58 : RdR 58 := ⟨by kernel_rfl, fun _ => by kernel_rfl, fun _ _ => by kernel_rfl, fun _ _ _ _ _ => by kernel_rfl⟩
theorem rd59 : RdR 59 := ⟨by kernel_rfl, fun _ => by kernel_rfl, fun _ _ => by kernel_rfl, fun _ _ _ _ _ => by kernel_rfl⟩
theorem rd60 : RdR 60 := ⟨by kernel_rfl, fun _ => by kernel_rfl, fun _ _ => by kernel_rfl, fun _ _ _ _ _ => by kernel_rfl⟩
theorem rd61 : RdR 61 := ⟨by kernel_rfl, fun _ => by kernel_rfl, fun _ _ => by kernel_rfl, fun _ _ _ _ _ => by kernel_rfl⟩
theorem rd62 : RdR 62 := ⟨by kernel_rfl, fun _ => by kernel_rfl, fun _ _ => by kernel_rfl, fun _ _ _ _ _ => by kernel_rfl⟩
theorem rd63 : RdR 63 := ⟨by kernel_rfl, fun _ => by kernel_rfl, fun _ _ => by kernel_rfl, fun _ _ _ _ _ => by kernel_rfl⟩
theorem rd64 : RdR 64 := ⟨by kernel_rfl, fun _ => by kernel_rfl, fun _ _ => by kernel_rfl, fun _ _ _ _ _ => by kernel_rfl⟩
theorem rd65 : RdR 65 := ⟨by kernel_rfl, fun _ => by kernel_rfl, fun _ _ => by kernel_rfl, fun _ _ _ _ _ => by kernel_rfl⟩
theorem rd66 : RdR 66 := ⟨by kernel_rfl, fun _ => by kernel_rfl, fun _ _ => by kernel_rfl, fun _ _ _ _ _ => by kernel_rfl⟩
theorem rd67 : RdR 67 := ⟨by kernel_rfl, fun _ => by kernel_rfl, fun _ _ => by kernel_rfl, fun _ _ _ _ _ => by kernel_rfl⟩
theorem rd68 : RdR 68 := ⟨by kernel_rfl, fun _ => by kernel_rfl, fun _ _ => by kernel_rfl, fun _ _ _ _ _ => by kernel_rfl⟩
theorem rdAll : ∀ k : Nat, k < 69 → RdR k
  | 0, _ => rd0
  | 1, _ => rd1
  | 2, _ => rd2
  | 3, _ => rd3
  | 4, _ => rd4
  | 5, _ => rd5
  | 6, _ => rd6
  | 7, _ => rd7
  | 8, _ => rd8
  | 9, _ => rd9
  | 10, _ => rd10
  | 11, _ => rd11
  | 12, _ => rd12
  | 13, _ => rd13
  | 14, _ => rd14
  | 15, _ => rd15
  | 16, _ => rd16
  | 17, _ => rd17
  | 18, _ => rd18
  | 19, _ => rd19
  | 20, _ => rd20
  | 21, _ => rd21
  | 22, _ => rd22
  | 23, _ => rd23
  | 24, _ => rd24
  | 25, _ => rd25
  | 26, _ => rd26
  | 27, _ => rd27
  | 28, _ => rd28
  | 29, _ => rd29
  | 30, _ => rd30
  | 31, _ => rd31
  | 32, _ => rd32
  | 33, _ => rd33
  | 34, _ => rd34
  | 35, _ => rd35
  | 36, _ => rd36
  | 37, _ => rd37
  | 38, _ => rd38
  | 39, _ => rd39
  | 40, _ => rd40
  | 41, _ => rd41
  | 42, _ => rd42
  | 43, _ => rd43
  | 44, _ => rd44
  | 45, _ => rd45
  | 46, _ => rd46
  | 47, _ => rd47
  | 48, _ => rd48
  | 49, _ => rd49
  | 50, _ => rd50
  | 51, _ => rd51
  | 52, _ => rd52
  | 53, _ => rd53
  | 54, _ => rd54
  | 55, _ => rd55
  | 56, _ => rd56
  | 57, _ => rd57
  | 58, _ => rd58
  | 59, _ => rd59
  | 60, _ => rd60
  | 61, _ => rd61
  | 62, _ => rd62
  | 63, _ => rd63
  | 64, _ => rd64
  | 65, _ => rd65
  | 66, _ => rd66
  | 67, _ => rd67
  | 68, _ => rd68
  | k + 69, h => absurd h (by omega)
theorem readOK {op : Int} (h : isOp op = true) (xs : List Int) : PureOK Tryz.prog 43 [.int .i64 op, L1 xs] (instV (readF op xs)) := by
  simp only [isOp, Bool.and_eq_true, decide_eq_true_eq] at h
  obtain ⟨k, hk, rfl⟩ : ∃ k : Nat, k < 69 ∧ op = (k : Int) + 1 := ⟨(op - 1).toNat, by omega, by omega⟩
  have e : ∀ a b c : Int, rdA k a b c = some (instV (rdS (sortF ((k : Int) + 1)) ((k : Int) + 1) a b c)) := fun a b c => by
    unfold rdA sortF
    rw [show ((k : Int) + 1 - 1).toNat = k by omega]
  obtain ⟨h0, h1, h2, h3⟩ := rdAll k hk
  match xs with
  | [] => exact PureOK.of_run noOK (h0.trans (e _ _ _)) (Gh.plain rfl)
  | [a] => exact PureOK.of_run noOK ((h1 a).trans (e _ _ _)) (Gh.plain rfl)
  | [a, b] => exact PureOK.of_run noOK ((h2 a b).trans (e _ _ _)) (Gh.plain rfl)
  | a :: b :: c :: r =>
    have := h3 a b c (r.map (Value.int .i64)) r.length
    rw [show decide (0 < Int.ofNat (r.length + 3)) = true from decide_eq_true (by simp only [Int.ofNat_eq_natCast]; omega), show decide (1 < Int.ofNat (r.length + 3)) = true from decide_eq_true (by simp only [Int.ofNat_eq_natCast]; omega), show decide (2 < Int.ofNat (r.length + 3)) = true from decide_eq_true (by simp only [Int.ofNat_eq_natCast]; omega)] at this
    exact PureOK.of_run noOK (this.trans (e _ _ _)) (Gh.plain rfl)
end Go.Proofs.YtgkicojmgokinaaGreatDoor.Ab
