/- Trimmed: AsmEnc -/
import Derived.Test.YtgkicojmgokinaaGreatDoorAsmTab
namespace Go.Proofs.YtgkicojmgokinaaGreatDoor.Ab
open Go Go.RowKit
set_option linter.unusedVariables false
set_option linter.unusedSimpArgs false
set_option maxRecDepth 100000
def bitV (x lo n : Int) : Int := bits .and .u32 (x.fdiv (2 ^ lo.toNat)) (2 ^ n.toNat - 1)
theorem bits_12_20 (x : Int) : callK (ctx noΦ) 20 0 61 [.int .u32 x, .int .i64 12, .int .i64 20] [] (fun v _ => some v) = some (.int .u32 (bits .and .u32 (x.fdiv 4096) 1048575)) := by kernel_rfl
theorem bits_20_12 (x : Int) : callK (ctx noΦ) 20 0 61 [.int .u32 x, .int .i64 20, .int .i64 12] [] (fun v _ => some v) = some (.int .u32 (bits .and .u32 (x.fdiv 1048576) 4095)) := by kernel_rfl
theorem bits_0_12 (x : Int) : callK (ctx noΦ) 20 0 61 [.int .u32 x, .int .i64 0, .int .i64 12] [] (fun v _ => some v) = some (.int .u32 (bits .and .u32 (x.fdiv 1) 4095)) := by kernel_rfl
theorem bits_5_7 (x : Int) : callK (ctx noΦ) 20 0 61 [.int .u32 x, .int .i64 5, .int .i64 7] [] (fun v _ => some v) = some (.int .u32 (bits .and .u32 (x.fdiv 32) 127)) := by kernel_rfl
theorem bits_0_5 (x : Int) : callK (ctx noΦ) 20 0 61 [.int .u32 x, .int .i64 0, .int .i64 5] [] (fun v _ => some v) = some (.int .u32 (bits .and .u32 (x.fdiv 1) 31)) := by kernel_rfl
theorem bits_25_7 (x : Int) : callK (ctx noΦ) 20 0 61 [.int .u32 x, .int .i64 25, .int .i64 7] [] (fun v _ => some v) = some (.int .u32 (bits .and .u32 (x.fdiv 33554432) 127)) := by kernel_rfl
theorem bits_7_5 (x : Int) : callK (ctx noΦ) 20 0 61 [.int .u32 x, .int .i64 7, .int .i64 5] [] (fun v _ => some v) = some (.int .u32 (bits .and .u32 (x.fdiv 128) 31)) := by kernel_rfl
theorem bits_12_1 (x : Int) : callK (ctx noΦ) 20 0 61 [.int .u32 x, .int .i64 12, .int .i64 1] [] (fun v _ => some v) = some (.int .u32 (bits .and .u32 (x.fdiv 4096) 1)) := by kernel_rfl
theorem bits_11_1 (x : Int) : callK (ctx noΦ) 20 0 61 [.int .u32 x, .int .i64 11, .int .i64 1] [] (fun v _ => some v) = some (.int .u32 (bits .and .u32 (x.fdiv 2048) 1)) := by kernel_rfl
theorem bits_5_6 (x : Int) : callK (ctx noΦ) 20 0 61 [.int .u32 x, .int .i64 5, .int .i64 6] [] (fun v _ => some v) = some (.int .u32 (bits .and .u32 (x.fdiv 32) 63)) := by kernel_rfl
theorem bits_1_4 (x : Int) : callK (ctx noΦ) 20 0 61 [.int .u32 x, .int .i64 1, .int .i64 4] [] (fun v _ => some v) = some (.int .u32 (bits .and .u32 (x.fdiv 2) 15)) := by kernel_rfl
theorem bits_31_1 (x : Int) : callK (ctx noΦ) 20 0 61 [.int .u32 x, .int .i64 31, .int .i64 1] [] (fun v _ => some v) = some (.int .u32 (bits .and .u32 (x.fdiv 2147483648) 1)) := by kernel_rfl
theorem bits_7_1 (x : Int) : callK (ctx noΦ) 20 0 61 [.int .u32 x, .int .i64 7, .int .i64 1] [] (fun v _ => some v) = some (.int .u32 (bits .and .u32 (x.fdiv 128) 1)) := by kernel_rfl
theorem bits_25_6 (x : Int) : callK (ctx noΦ) 20 0 61 [.int .u32 x, .int .i64 25, .int .i64 6] [] (fun v _ => some v) = some (.int .u32 (bits .and .u32 (x.fdiv 33554432) 63)) := by kernel_rfl
theorem bits_8_4 (x : Int) : callK (ctx noΦ) 20 0 61 [.int .u32 x, .int .i64 8, .int .i64 4] [] (fun v _ => some v) = some (.int .u32 (bits .and .u32 (x.fdiv 256) 15)) := by kernel_rfl
theorem bits_20_1 (x : Int) : callK (ctx noΦ) 20 0 61 [.int .u32 x, .int .i64 20, .int .i64 1] [] (fun v _ => some v) = some (.int .u32 (bits .and .u32 (x.fdiv 1048576) 1)) := by kernel_rfl
theorem bits_12_8 (x : Int) : callK (ctx noΦ) 20 0 61 [.int .u32 x, .int .i64 12, .int .i64 8] [] (fun v _ => some v) = some (.int .u32 (bits .and .u32 (x.fdiv 4096) 255)) := by kernel_rfl
theorem bits_1_10 (x : Int) : callK (ctx noΦ) 20 0 61 [.int .u32 x, .int .i64 1, .int .i64 10] [] (fun v _ => some v) = some (.int .u32 (bits .and .u32 (x.fdiv 2) 1023)) := by kernel_rfl
theorem bits_21_10 (x : Int) : callK (ctx noΦ) 20 0 61 [.int .u32 x, .int .i64 21, .int .i64 10] [] (fun v _ => some v) = some (.int .u32 (bits .and .u32 (x.fdiv 2097152) 1023)) := by kernel_rfl
theorem bits_4_4 (x : Int) : callK (ctx noΦ) 20 0 61 [.int .u32 x, .int .i64 4, .int .i64 4] [] (fun v _ => some v) = some (.int .u32 (bits .and .u32 (x.fdiv 16) 15)) := by kernel_rfl
theorem bits_0_4 (x : Int) : callK (ctx noΦ) 20 0 61 [.int .u32 x, .int .i64 0, .int .i64 4] [] (fun v _ => some v) = some (.int .u32 (bits .and .u32 (x.fdiv 1) 15)) := by kernel_rfl
theorem bits_12_4 (x : Int) : callK (ctx noΦ) 20 0 61 [.int .u32 x, .int .i64 12, .int .i64 4] [] (fun v _ => some v) = some (.int .u32 (bits .and .u32 (x.fdiv 4096) 15)) := by kernel_rfl
theorem bits_16_4 (x : Int) : callK (ctx noΦ) 20 0 61 [.int .u32 x, .int .i64 16, .int .i64 4] [] (fun v _ => some v) = some (.int .u32 (bits .and .u32 (x.fdiv 65536) 15)) := by kernel_rfl
theorem bits_20_4 (x : Int) : callK (ctx noΦ) 20 0 61 [.int .u32 x, .int .i64 20, .int .i64 4] [] (fun v _ => some v) = some (.int .u32 (bits .and .u32 (x.fdiv 1048576) 15)) := by kernel_rfl
theorem bits_24_4 (x : Int) : callK (ctx noΦ) 20 0 61 [.int .u32 x, .int .i64 24, .int .i64 4] [] (fun v _ => some v) = some (.int .u32 (bits .and .u32 (x.fdiv 16777216) 15)) := by kernel_rfl
theorem bits_28_4 (x : Int) : callK (ctx noΦ) 20 0 61 [.int .u32 x, .int .i64 28, .int .i64 4] [] (fun v _ => some v) = some (.int .u32 (bits .and .u32 (x.fdiv 268435456) 15)) := by kernel_rfl
theorem bits_0_7 (x : Int) : callK (ctx noΦ) 20 0 61 [.int .u32 x, .int .i64 0, .int .i64 7] [] (fun v _ => some v) = some (.int .u32 (bits .and .u32 (x.fdiv 1) 127)) := by kernel_rfl
theorem bits_12_3 (x : Int) : callK (ctx noΦ) 20 0 61 [.int .u32 x, .int .i64 12, .int .i64 3] [] (fun v _ => some v) = some (.int .u32 (bits .and .u32 (x.fdiv 4096) 7)) := by kernel_rfl
theorem bits_15_5 (x : Int) : callK (ctx noΦ) 20 0 61 [.int .u32 x, .int .i64 15, .int .i64 5] [] (fun v _ => some v) = some (.int .u32 (bits .and .u32 (x.fdiv 32768) 31)) := by kernel_rfl
theorem bits_20_5 (x : Int) : callK (ctx noΦ) 20 0 61 [.int .u32 x, .int .i64 20, .int .i64 5] [] (fun v _ => some v) = some (.int .u32 (bits .and .u32 (x.fdiv 1048576) 31)) := by kernel_rfl
theorem bits_26_1 (x : Int) : callK (ctx noΦ) 20 0 61 [.int .u32 x, .int .i64 26, .int .i64 1] [] (fun v _ => some v) = some (.int .u32 (bits .and .u32 (x.fdiv 67108864) 1)) := by kernel_rfl
theorem bits_25_1 (x : Int) : callK (ctx noΦ) 20 0 61 [.int .u32 x, .int .i64 25, .int .i64 1] [] (fun v _ => some v) = some (.int .u32 (bits .and .u32 (x.fdiv 33554432) 1)) := by kernel_rfl
theorem bits_20_8 (x : Int) : callK (ctx noΦ) 20 0 61 [.int .u32 x, .int .i64 20, .int .i64 8] [] (fun v _ => some v) = some (.int .u32 (bits .and .u32 (x.fdiv 1048576) 255)) := by kernel_rfl
def isBits (lo n : Int) : Bool := (lo == 12 && n == 20) || (lo == 20 && n == 12) || (lo == 0 && n == 12) || (lo == 5 && n == 7) || (lo == 0 && n == 5) || (lo == 25 && n == 7) || (lo == 7 && n == 5) || (lo == 12 && n == 1) || (lo == 11 && n == 1) || (lo == 5 && n == 6) || (lo == 1 && n == 4) || (lo == 31 && n == 1) || (lo == 7 && n == 1) || (lo == 25 && n == 6) || (lo == 8 && n == 4) || (lo == 20 && n == 1) || (lo == 12 && n == 8) || (lo == 1 && n == 10) || (lo == 21 && n == 10) || (lo == 4 && n == 4) || (lo == 0 && n == 4) || (lo == 12 && n == 4) || (lo == 16 && n == 4) || (lo == 20 && n == 4) || (lo == 24 && n == 4) || (lo == 28 && n == 4) || (lo == 0 && n == 7) || (lo == 12 && n == 3) || (lo == 15 && n == 5) || (lo == 20 && n == 5) || (lo == 26 && n == 1) || (lo == 25 && n == 1) || (lo == 20 && n == 8)
theorem bitsOK {x lo n : Int} (h : isBits lo n = true) : PureOK Tryz.prog 61 [.int .u32 x, .int .i64 lo, .int .i64 n] (.int .u32 (bitV x lo n)) := by
  simp only [isBits, Bool.or_eq_true, Bool.and_eq_true, beq_iff_eq] at h
  rcases h with (((((((((((((((((((((((((((((((⟨rfl, rfl⟩ | ⟨rfl, rfl⟩) | ⟨rfl, rfl⟩) | ⟨rfl, rfl⟩) | ⟨rfl, rfl⟩) | ⟨rfl, rfl⟩) | ⟨rfl, rfl⟩) | ⟨rfl, rfl⟩) | ⟨rfl, rfl⟩) | ⟨rfl, rfl⟩) | ⟨rfl, rfl⟩) | ⟨rfl, rfl⟩) | ⟨rfl, rfl⟩) | ⟨rfl, rfl⟩) | ⟨rfl, rfl⟩) | ⟨rfl, rfl⟩) | ⟨rfl, rfl⟩) | ⟨rfl, rfl⟩) | ⟨rfl, rfl⟩) | ⟨rfl, rfl⟩) | ⟨rfl, rfl⟩) | ⟨rfl, rfl⟩) | ⟨rfl, rfl⟩) | ⟨rfl, rfl⟩) | ⟨rfl, rfl⟩) | ⟨rfl, rfl⟩) | ⟨rfl, rfl⟩) | ⟨rfl, rfl⟩) | ⟨rfl, rfl⟩) | ⟨rfl, rfl⟩) | ⟨rfl, rfl⟩) | ⟨rfl, rfl⟩) | ⟨rfl, rfl⟩
  · exact PureOK.of_run noOK (bits_12_20 x) (Gh.plain rfl)
  · exact PureOK.of_run noOK (bits_20_12 x) (Gh.plain rfl)
  · exact PureOK.of_run noOK (bits_0_12 x) (Gh.plain rfl)
  · exact PureOK.of_run noOK (bits_5_7 x) (Gh.plain rfl)
  · exact PureOK.of_run noOK (bits_0_5 x) (Gh.plain rfl)
  · exact PureOK.of_run noOK (bits_25_7 x) (Gh.plain rfl)
  · exact PureOK.of_run noOK (bits_7_5 x) (Gh.plain rfl)
  · exact PureOK.of_run noOK (bits_12_1 x) (Gh.plain rfl)
  · exact PureOK.of_run noOK (bits_11_1 x) (Gh.plain rfl)
  · exact PureOK.of_run noOK (bits_5_6 x) (Gh.plain rfl)
  · exact PureOK.of_run noOK (bits_1_4 x) (Gh.plain rfl)
  · exact PureOK.of_run noOK (bits_31_1 x) (Gh.plain rfl)
  · exact PureOK.of_run noOK (bits_7_1 x) (Gh.plain rfl)
  · exact PureOK.of_run noOK (bits_25_6 x) (Gh.plain rfl)
  · exact PureOK.of_run noOK (bits_8_4 x) (Gh.plain rfl)
  · exact PureOK.of_run noOK (bits_20_1 x) (Gh.plain rfl)
  · exact PureOK.of_run noOK (bits_12_8 x) (Gh.plain rfl)
  · exact PureOK.of_run noOK (bits_1_10 x) (Gh.plain rfl)
  · exact PureOK.of_run noOK (bits_21_10 x) (Gh.plain rfl)
  · exact PureOK.of_run noOK (bits_4_4 x) (Gh.plain rfl)
  · exact PureOK.of_run noOK (bits_0_4 x) (Gh.plain rfl)
  · exact PureOK.of_run noOK (bits_12_4 x) (Gh.plain rfl)
  · exact PureOK.of_run noOK (bits_16_4 x) (Gh.plain rfl)
  · exact PureOK.of_run noOK (bits_20_4 x) (Gh.plain rfl)
  · exact PureOK.of_run noOK (bits_24_4 x) (Gh.plain rfl)
  · exact PureOK.of_run noOK (bits_28_4 x) (Gh.plain rfl)
  · exact PureOK.of_run noOK (bits_0_7 x) (Gh.plain rfl)
  · exact PureOK.of_run noOK (bits_12_3 x) (Gh.plain rfl)
  · exact PureOK.of_run noOK (bits_15_5 x) (Gh.plain rfl)
  · exact PureOK.of_run noOK (bits_20_5 x) (Gh.plain rfl)
  · exact PureOK.of_run noOK (bits_26_1 x) (Gh.plain rfl)
  · exact PureOK.of_run noOK (bits_25_1 x) (Gh.plain rfl)
  · exact PureOK.of_run noOK (bits_20_8 x) (Gh.plain rfl)
noncomputable def bitsΦ (Bt : Int → Int → Int → Int) : Oracle := fun lo f args H => match f with
  | 61 => match args with
    | [.int .u32 x, .int .i64 l, .int .i64 n] => some [(isBits l n, .int .u32 (Bt x l n), H)]
    | _ => none
  | _ => none
theorem bitsΦ_ok  : CtxOK Tryz.prog (ctx (bitsΦ bitV)) := ctxOK fun lo f args H l v H' h hm => by
  unfold bitsΦ at h
  split at h
  · split at h
    · cases h
      simp only [List.mem_cons, List.not_mem_nil, or_false, Prod.mk.injEq] at hm
      obtain ⟨hc, rfl, rfl⟩ := hm
      exact ⟨(bitsOK hc.symm).call (gh_plains rfl) lo H', rfl⟩
    · cases h
  · cases h
def immI (Bt : Int → Int → Int → Int) (w : Int) : Int := IntKind.u32.wrap ((IntKind.i32.wrap (IntKind.u32.wrap ((bits .or .u32 0 (IntKind.u32.wrap (Bt w 20 12 * 1))) * 1048576))).fdiv 1048576)
theorem immI_run (Bt : Int → Int → Int → Int) (w : Int) : callK (ctx (bitsΦ Bt)) 20 0 112 [.int .u8 73, .int .u32 w] [] (fun v _ => some v) = some (.int .u32 (immI Bt w)) := by kernel_rfl
def immS (Bt : Int → Int → Int → Int) (w : Int) : Int := IntKind.u32.wrap ((IntKind.i32.wrap (IntKind.u32.wrap ((bits .or .u32 (bits .or .u32 0 (IntKind.u32.wrap (Bt w 25 7 * 32))) (IntKind.u32.wrap (Bt w 7 5 * 1))) * 1048576))).fdiv 1048576)
theorem immS_run (Bt : Int → Int → Int → Int) (w : Int) : callK (ctx (bitsΦ Bt)) 20 0 112 [.int .u8 83, .int .u32 w] [] (fun v _ => some v) = some (.int .u32 (immS Bt w)) := by kernel_rfl
def immB (Bt : Int → Int → Int → Int) (w : Int) : Int := IntKind.u32.wrap ((IntKind.i32.wrap (IntKind.u32.wrap ((bits .or .u32 (bits .or .u32 (bits .or .u32 (bits .or .u32 0 (IntKind.u32.wrap (Bt w 31 1 * 4096))) (IntKind.u32.wrap (Bt w 7 1 * 2048))) (IntKind.u32.wrap (Bt w 25 6 * 32))) (IntKind.u32.wrap (Bt w 8 4 * 2))) * 524288))).fdiv 524288)
theorem immB_run (Bt : Int → Int → Int → Int) (w : Int) : callK (ctx (bitsΦ Bt)) 20 0 112 [.int .u8 66, .int .u32 w] [] (fun v _ => some v) = some (.int .u32 (immB Bt w)) := by kernel_rfl
def immU (Bt : Int → Int → Int → Int) (w : Int) : Int := bits .or .u32 0 (IntKind.u32.wrap (Bt w 12 20 * 4096))
theorem immU_run (Bt : Int → Int → Int → Int) (w : Int) : callK (ctx (bitsΦ Bt)) 20 0 112 [.int .u8 85, .int .u32 w] [] (fun v _ => some v) = some (.int .u32 (immU Bt w)) := by kernel_rfl
def immJ (Bt : Int → Int → Int → Int) (w : Int) : Int := IntKind.u32.wrap ((IntKind.i32.wrap (IntKind.u32.wrap ((bits .or .u32 (bits .or .u32 (bits .or .u32 (bits .or .u32 0 (IntKind.u32.wrap (Bt w 31 1 * 1048576))) (IntKind.u32.wrap (Bt w 12 8 * 4096))) (IntKind.u32.wrap (Bt w 20 1 * 2048))) (IntKind.u32.wrap (Bt w 21 10 * 2))) * 2048))).fdiv 2048)
theorem immJ_run (Bt : Int → Int → Int → Int) (w : Int) : callK (ctx (bitsΦ Bt)) 20 0 112 [.int .u8 74, .int .u32 w] [] (fun v _ => some v) = some (.int .u32 (immJ Bt w)) := by kernel_rfl
def immV (c w : Int) : Int := if c = 73 then immI bitV w else if c = 83 then immS bitV w else if c = 66 then immB bitV w else if c = 85 then immU bitV w else if c = 74 then immJ bitV w else 0
def isFmt (c : Int) : Bool := c == 73 || c == 83 || c == 66 || c == 85 || c == 74
theorem immOK {c w : Int} (h : isFmt c = true) : PureOK Tryz.prog 112 [.int .u8 c, .int .u32 w] (.int .u32 (immV c w)) := by
  simp only [isFmt, Bool.or_eq_true, beq_iff_eq] at h
  rcases h with (((rfl | rfl) | rfl) | rfl) | rfl
  · rw [show immV 73 w = immI bitV w by simp [immV]]; exact PureOK.of_run (bitsΦ_ok) (immI_run bitV w) (Gh.plain rfl)
  · rw [show immV 83 w = immS bitV w by simp [immV]]; exact PureOK.of_run (bitsΦ_ok) (immS_run bitV w) (Gh.plain rfl)
  · rw [show immV 66 w = immB bitV w by simp [immV]]; exact PureOK.of_run (bitsΦ_ok) (immB_run bitV w) (Gh.plain rfl)
  · rw [show immV 85 w = immU bitV w by simp [immV]]; exact PureOK.of_run (bitsΦ_ok) (immU_run bitV w) (Gh.plain rfl)
  · rw [show immV 74 w = immJ bitV w by simp [immV]]; exact PureOK.of_run (bitsΦ_ok) (immJ_run bitV w) (Gh.plain rfl)
noncomputable def layΦ (Bt : Int → Int → Int → Int) (Im : Int → Int → Int) : Oracle := fun lo f args H => match f with
  | 61 => match args with
    | [.int .u32 x, .int .i64 l, .int .i64 n] => some [(isBits l n, .int .u32 (Bt x l n), H)]
    | _ => none
  | 112 => match args with
    | [.int .u8 c, .int .u32 w] => some [(isFmt c, .int .u32 (Im c w), H)]
    | _ => none
  | _ => none
theorem layΦ_ok  : CtxOK Tryz.prog (ctx (layΦ bitV immV)) := ctxOK fun lo f args H l v H' h hm => by
  unfold layΦ at h
  split at h
  · split at h
    · cases h
      simp only [List.mem_cons, List.not_mem_nil, or_false, Prod.mk.injEq] at hm
      obtain ⟨hc, rfl, rfl⟩ := hm
      exact ⟨(bitsOK hc.symm).call (gh_plains rfl) lo H', rfl⟩
    · cases h
  · split at h
    · cases h
      simp only [List.mem_cons, List.not_mem_nil, or_false, Prod.mk.injEq] at hm
      obtain ⟨hc, rfl, rfl⟩ := hm
      exact ⟨(immOK hc.symm).call (gh_plains rfl) lo H', rfl⟩
    · cases h
  · cases h
def layI (Bt : Int → Int → Int → Int) (x : Int) : Int := bits .or .u32 0 (IntKind.u32.wrap (Bt x 0 12 * 1048576))
theorem layI_run (Bt : Int → Int → Int → Int) (Im : Int → Int → Int) (x : Int) : callK (ctx (layΦ Bt Im)) 20 0 88 [.int .u8 73, .int .u32 x] [] (fun v _ => some v) = bif Im 73 (layI Bt x) != x then some (.tuple #[.int .u32 0, .bool false]) else some (.tuple #[.int .u32 (layI Bt x), .bool true]) := by kernel_rfl
def layS (Bt : Int → Int → Int → Int) (x : Int) : Int := bits .or .u32 (bits .or .u32 0 (IntKind.u32.wrap (Bt x 5 7 * 33554432))) (IntKind.u32.wrap (Bt x 0 5 * 128))
theorem layS_run (Bt : Int → Int → Int → Int) (Im : Int → Int → Int) (x : Int) : callK (ctx (layΦ Bt Im)) 20 0 88 [.int .u8 83, .int .u32 x] [] (fun v _ => some v) = bif Im 83 (layS Bt x) != x then some (.tuple #[.int .u32 0, .bool false]) else some (.tuple #[.int .u32 (layS Bt x), .bool true]) := by kernel_rfl
def layB (Bt : Int → Int → Int → Int) (x : Int) : Int := bits .or .u32 (bits .or .u32 (bits .or .u32 (bits .or .u32 0 (IntKind.u32.wrap (Bt x 12 1 * 2147483648))) (IntKind.u32.wrap (Bt x 11 1 * 128))) (IntKind.u32.wrap (Bt x 5 6 * 33554432))) (IntKind.u32.wrap (Bt x 1 4 * 256))
theorem layB_run (Bt : Int → Int → Int → Int) (Im : Int → Int → Int) (x : Int) : callK (ctx (layΦ Bt Im)) 20 0 88 [.int .u8 66, .int .u32 x] [] (fun v _ => some v) = bif Im 66 (layB Bt x) != x then some (.tuple #[.int .u32 0, .bool false]) else some (.tuple #[.int .u32 (layB Bt x), .bool true]) := by kernel_rfl
def layU (Bt : Int → Int → Int → Int) (x : Int) : Int := bits .or .u32 0 (IntKind.u32.wrap (Bt x 12 20 * 4096))
theorem layU_run (Bt : Int → Int → Int → Int) (Im : Int → Int → Int) (x : Int) : callK (ctx (layΦ Bt Im)) 20 0 88 [.int .u8 85, .int .u32 x] [] (fun v _ => some v) = bif Im 85 (layU Bt x) != x then some (.tuple #[.int .u32 0, .bool false]) else some (.tuple #[.int .u32 (layU Bt x), .bool true]) := by kernel_rfl
def layJ (Bt : Int → Int → Int → Int) (x : Int) : Int := bits .or .u32 (bits .or .u32 (bits .or .u32 (bits .or .u32 0 (IntKind.u32.wrap (Bt x 20 1 * 2147483648))) (IntKind.u32.wrap (Bt x 12 8 * 4096))) (IntKind.u32.wrap (Bt x 11 1 * 1048576))) (IntKind.u32.wrap (Bt x 1 10 * 2097152))
theorem layJ_run (Bt : Int → Int → Int → Int) (Im : Int → Int → Int) (x : Int) : callK (ctx (layΦ Bt Im)) 20 0 88 [.int .u8 74, .int .u32 x] [] (fun v _ => some v) = bif Im 74 (layJ Bt x) != x then some (.tuple #[.int .u32 0, .bool false]) else some (.tuple #[.int .u32 (layJ Bt x), .bool true]) := by kernel_rfl
def layW (c x : Int) : Int := if c = 73 then layI bitV x else if c = 83 then layS bitV x else if c = 66 then layB bitV x else if c = 85 then layU bitV x else if c = 74 then layJ bitV x else 0
def layV (c x : Int) : Int × Bool := bif immV c (layW c x) != x then (0, false) else (layW c x, true)
theorem layOK {c x : Int} (h : isFmt c = true) : PureOK Tryz.prog 88 [.int .u8 c, .int .u32 x] (.tuple #[.int .u32 (layV c x).1, .bool (layV c x).2]) := by
  simp only [isFmt, Bool.or_eq_true, beq_iff_eq] at h
  unfold layV
  rcases h with (((rfl | rfl) | rfl) | rfl) | rfl
  · have h := layI_run bitV immV x
    rw [show layW 73 x = layI bitV x by simp [layW]]
    cases hb : (immV 73 (layI bitV x) != x) <;> rw [hb] at h <;> exact PureOK.of_run layΦ_ok h (Gh.plain rfl)
  · have h := layS_run bitV immV x
    rw [show layW 83 x = layS bitV x by simp [layW]]
    cases hb : (immV 83 (layS bitV x) != x) <;> rw [hb] at h <;> exact PureOK.of_run layΦ_ok h (Gh.plain rfl)
  · have h := layB_run bitV immV x
    rw [show layW 66 x = layB bitV x by simp [layW]]
    cases hb : (immV 66 (layB bitV x) != x) <;> rw [hb] at h <;> exact PureOK.of_run layΦ_ok h (Gh.plain rfl)
  · have h := layU_run bitV immV x
    rw [show layW 85 x = layU bitV x by simp [layW]]
    cases hb : (immV 85 (layU bitV x) != x) <;> rw [hb] at h <;> exact PureOK.of_run layΦ_ok h (Gh.plain rfl)
  · have h := layJ_run bitV immV x
    rw [show layW 74 x = layJ bitV x by simp [layW]]
    cases hb : (immV 74 (layJ bitV x) != x) <;> rw [hb] at h <;> exact PureOK.of_run layΦ_ok h (Gh.plain rfl)
def rowV (op : Int) (s : ByteArray) (form opc f3 f7 kind : Int) : Value := .agg #[.int .i64 op, .string s, .int .i64 form, .int .u32 opc, .int .u32 f3, .int .u32 f7, .int .i64 kind]
noncomputable def rlayΦ (Ly : Int → Int → Int × Bool) : Oracle := fun lo f args H => match f with
  | 88 => match args with
    | [.int .u8 c, .int .u32 x] => some [(isFmt c, .tuple #[.int .u32 (Ly c x).1, .bool (Ly c x).2], H)]
    | _ => none
  | _ => none
theorem rlayΦ_ok  : CtxOK Tryz.prog (ctx (rlayΦ layV)) := ctxOK fun lo f args H l v H' h hm => by
  unfold rlayΦ at h
  split at h
  · split at h
    · cases h
      simp only [List.mem_cons, List.not_mem_nil, or_false, Prod.mk.injEq] at hm
      obtain ⟨hc, rfl, rfl⟩ := hm
      exact ⟨(layOK hc.symm).call (gh_plains rfl) lo H', rfl⟩
    · cases h
  · cases h
def rlayF (Ly : Int → Int → Int × Bool) (fm x : Int) : Int × Bool := if fm = 5 then (IntKind.u32.wrap (x * 1048576), decide (x < 32)) else if fm = 7 then (IntKind.u32.wrap (x * 1048576), decide (x < 256)) else if fm = 11 then (IntKind.u32.wrap (x * 32768), decide (x < 32)) else if fm = 0 then Ly 85 x else if fm = 1 then Ly 74 x else if fm = 2 then Ly 73 x else if fm = 3 then Ly 66 x else if fm = 4 then Ly 83 x else (0, false)
theorem rlay0 (Ly : Int → Int → Int × Bool) (op : Int) (s : ByteArray) (opc f3 f7 kind x : Int) : callK (ctx (rlayΦ Ly)) 20 0 55 [rowV op s 0 opc f3 f7 kind, .int .u32 x] [] (fun v _ => some v) = bif (Ly 85 x).2 then some (.tuple #[.int .u32 (Ly 85 x).1, .bool true]) else some (.tuple #[.int .u32 (Ly 85 x).1, .bool false]) := by kernel_rfl
theorem rlay1 (Ly : Int → Int → Int × Bool) (op : Int) (s : ByteArray) (opc f3 f7 kind x : Int) : callK (ctx (rlayΦ Ly)) 20 0 55 [rowV op s 1 opc f3 f7 kind, .int .u32 x] [] (fun v _ => some v) = bif (Ly 74 x).2 then some (.tuple #[.int .u32 (Ly 74 x).1, .bool true]) else some (.tuple #[.int .u32 (Ly 74 x).1, .bool false]) := by kernel_rfl
theorem rlay2 (Ly : Int → Int → Int × Bool) (op : Int) (s : ByteArray) (opc f3 f7 kind x : Int) : callK (ctx (rlayΦ Ly)) 20 0 55 [rowV op s 2 opc f3 f7 kind, .int .u32 x] [] (fun v _ => some v) = bif (Ly 73 x).2 then some (.tuple #[.int .u32 (Ly 73 x).1, .bool true]) else some (.tuple #[.int .u32 (Ly 73 x).1, .bool false]) := by kernel_rfl
theorem rlay3 (Ly : Int → Int → Int × Bool) (op : Int) (s : ByteArray) (opc f3 f7 kind x : Int) : callK (ctx (rlayΦ Ly)) 20 0 55 [rowV op s 3 opc f3 f7 kind, .int .u32 x] [] (fun v _ => some v) = bif (Ly 66 x).2 then some (.tuple #[.int .u32 (Ly 66 x).1, .bool true]) else some (.tuple #[.int .u32 (Ly 66 x).1, .bool false]) := by kernel_rfl
theorem rlay4 (Ly : Int → Int → Int × Bool) (op : Int) (s : ByteArray) (opc f3 f7 kind x : Int) : callK (ctx (rlayΦ Ly)) 20 0 55 [rowV op s 4 opc f3 f7 kind, .int .u32 x] [] (fun v _ => some v) = bif (Ly 83 x).2 then some (.tuple #[.int .u32 (Ly 83 x).1, .bool true]) else some (.tuple #[.int .u32 (Ly 83 x).1, .bool false]) := by kernel_rfl
theorem rlay5 (Ly : Int → Int → Int × Bool) (op : Int) (s : ByteArray) (opc f3 f7 kind x : Int) : callK (ctx (rlayΦ Ly)) 20 0 55 [rowV op s 5 opc f3 f7 kind, .int .u32 x] [] (fun v _ => some v) = bif decide (x < 32) then some (.tuple #[.int .u32 (IntKind.u32.wrap (x * 1048576)), .bool true]) else some (.tuple #[.int .u32 (IntKind.u32.wrap (x * 1048576)), .bool false]) := by kernel_rfl
theorem rlay7 (Ly : Int → Int → Int × Bool) (op : Int) (s : ByteArray) (opc f3 f7 kind x : Int) : callK (ctx (rlayΦ Ly)) 20 0 55 [rowV op s 7 opc f3 f7 kind, .int .u32 x] [] (fun v _ => some v) = bif decide (x < 256) then some (.tuple #[.int .u32 (IntKind.u32.wrap (x * 1048576)), .bool true]) else some (.tuple #[.int .u32 (IntKind.u32.wrap (x * 1048576)), .bool false]) := by kernel_rfl
theorem rlay11 (Ly : Int → Int → Int × Bool) (op : Int) (s : ByteArray) (opc f3 f7 kind x : Int) : callK (ctx (rlayΦ Ly)) 20 0 55 [rowV op s 11 opc f3 f7 kind, .int .u32 x] [] (fun v _ => some v) = bif decide (x < 32) then some (.tuple #[.int .u32 (IntKind.u32.wrap (x * 32768)), .bool true]) else some (.tuple #[.int .u32 (IntKind.u32.wrap (x * 32768)), .bool false]) := by kernel_rfl
def hasImm (fm : Int) : Bool := fm == 0 || fm == 1 || fm == 2 || fm == 3 || fm == 4 || fm == 5 || fm == 7 || fm == 11
theorem some_bool {α : Type} (b : Bool) (f : Bool → α) : (bif b then some (f true) else some (f false)) = some (f b) := by cases b <;> rfl
theorem rlayOK (op : Int) (s : ByteArray) (opc f3 f7 kind : Int) {fm x : Int} (h : hasImm fm = true) : PureOK Tryz.prog 55 [rowV op s fm opc f3 f7 kind, .int .u32 x] (.tuple #[.int .u32 (rlayF layV fm x).1, .bool (rlayF layV fm x).2]) := by
  simp only [hasImm, Bool.or_eq_true, beq_iff_eq] at h
  rcases h with ((((((rfl | rfl) | rfl) | rfl) | rfl) | rfl) | rfl) | rfl
  · exact PureOK.of_run rlayΦ_ok ((rlay0 layV op s opc f3 f7 kind x).trans (some_bool (layV 85 x).2 (fun b => Value.tuple #[.int .u32 (layV 85 x).1, .bool b]))) (Gh.plain rfl)
  · exact PureOK.of_run rlayΦ_ok ((rlay1 layV op s opc f3 f7 kind x).trans (some_bool (layV 74 x).2 (fun b => Value.tuple #[.int .u32 (layV 74 x).1, .bool b]))) (Gh.plain rfl)
  · exact PureOK.of_run rlayΦ_ok ((rlay2 layV op s opc f3 f7 kind x).trans (some_bool (layV 73 x).2 (fun b => Value.tuple #[.int .u32 (layV 73 x).1, .bool b]))) (Gh.plain rfl)
  · exact PureOK.of_run rlayΦ_ok ((rlay3 layV op s opc f3 f7 kind x).trans (some_bool (layV 66 x).2 (fun b => Value.tuple #[.int .u32 (layV 66 x).1, .bool b]))) (Gh.plain rfl)
  · exact PureOK.of_run rlayΦ_ok ((rlay4 layV op s opc f3 f7 kind x).trans (some_bool (layV 83 x).2 (fun b => Value.tuple #[.int .u32 (layV 83 x).1, .bool b]))) (Gh.plain rfl)
  · exact PureOK.of_run rlayΦ_ok ((rlay5 layV op s opc f3 f7 kind x).trans (some_bool (decide (x < 32)) (fun b => Value.tuple #[.int .u32 (IntKind.u32.wrap (x * 1048576)), .bool b]))) (Gh.plain rfl)
  · exact PureOK.of_run rlayΦ_ok ((rlay7 layV op s opc f3 f7 kind x).trans (some_bool (decide (x < 256)) (fun b => Value.tuple #[.int .u32 (IntKind.u32.wrap (x * 1048576)), .bool b]))) (Gh.plain rfl)
  · exact PureOK.of_run rlayΦ_ok ((rlay11 layV op s opc f3 f7 kind x).trans (some_bool (decide (x < 32)) (fun b => Value.tuple #[.int .u32 (IntKind.u32.wrap (x * 32768)), .bool b]))) (Gh.plain rfl)
def usesF (fm : Int) : Bool × Bool × Bool × Bool := (!([3, 4, 7, 8, 9].contains fm), !([0, 1, 7, 8, 11].contains fm), [3, 4, 6, 9, 13].contains fm, [0, 1, 2, 3, 4, 5, 7, 11].contains fm)
def usesV (fm : Int) : Value := .tuple #[.bool (usesF fm).1, .bool (usesF fm).2.1, .bool (usesF fm).2.2.1, .bool (usesF fm).2.2.2]
theorem uses0 (op : Int) (s : ByteArray) (opc f3 f7 kind : Int) : callK (ctx noΦ) 40 0 54 [rowV op s 0 opc f3 f7 kind] [] (fun v _ => some v) = some (usesV 0) := by kernel_rfl
theorem uses1 (op : Int) (s : ByteArray) (opc f3 f7 kind : Int) : callK (ctx noΦ) 40 0 54 [rowV op s 1 opc f3 f7 kind] [] (fun v _ => some v) = some (usesV 1) := by kernel_rfl
theorem uses2 (op : Int) (s : ByteArray) (opc f3 f7 kind : Int) : callK (ctx noΦ) 40 0 54 [rowV op s 2 opc f3 f7 kind] [] (fun v _ => some v) = some (usesV 2) := by kernel_rfl
theorem uses3 (op : Int) (s : ByteArray) (opc f3 f7 kind : Int) : callK (ctx noΦ) 40 0 54 [rowV op s 3 opc f3 f7 kind] [] (fun v _ => some v) = some (usesV 3) := by kernel_rfl
theorem uses4 (op : Int) (s : ByteArray) (opc f3 f7 kind : Int) : callK (ctx noΦ) 40 0 54 [rowV op s 4 opc f3 f7 kind] [] (fun v _ => some v) = some (usesV 4) := by kernel_rfl
theorem uses5 (op : Int) (s : ByteArray) (opc f3 f7 kind : Int) : callK (ctx noΦ) 40 0 54 [rowV op s 5 opc f3 f7 kind] [] (fun v _ => some v) = some (usesV 5) := by kernel_rfl
theorem uses6 (op : Int) (s : ByteArray) (opc f3 f7 kind : Int) : callK (ctx noΦ) 40 0 54 [rowV op s 6 opc f3 f7 kind] [] (fun v _ => some v) = some (usesV 6) := by kernel_rfl
theorem uses7 (op : Int) (s : ByteArray) (opc f3 f7 kind : Int) : callK (ctx noΦ) 40 0 54 [rowV op s 7 opc f3 f7 kind] [] (fun v _ => some v) = some (usesV 7) := by kernel_rfl
theorem uses8 (op : Int) (s : ByteArray) (opc f3 f7 kind : Int) : callK (ctx noΦ) 40 0 54 [rowV op s 8 opc f3 f7 kind] [] (fun v _ => some v) = some (usesV 8) := by kernel_rfl
theorem uses9 (op : Int) (s : ByteArray) (opc f3 f7 kind : Int) : callK (ctx noΦ) 40 0 54 [rowV op s 9 opc f3 f7 kind] [] (fun v _ => some v) = some (usesV 9) := by kernel_rfl
theorem uses10 (op : Int) (s : ByteArray) (opc f3 f7 kind : Int) : callK (ctx noΦ) 40 0 54 [rowV op s 10 opc f3 f7 kind] [] (fun v _ => some v) = some (usesV 10) := by kernel_rfl
theorem uses11 (op : Int) (s : ByteArray) (opc f3 f7 kind : Int) : callK (ctx noΦ) 40 0 54 [rowV op s 11 opc f3 f7 kind] [] (fun v _ => some v) = some (usesV 11) := by kernel_rfl
theorem uses12 (op : Int) (s : ByteArray) (opc f3 f7 kind : Int) : callK (ctx noΦ) 40 0 54 [rowV op s 12 opc f3 f7 kind] [] (fun v _ => some v) = some (usesV 12) := by kernel_rfl
theorem uses13 (op : Int) (s : ByteArray) (opc f3 f7 kind : Int) : callK (ctx noΦ) 40 0 54 [rowV op s 13 opc f3 f7 kind] [] (fun v _ => some v) = some (usesV 13) := by kernel_rfl
def isForm (fm : Int) : Bool := decide (0 ≤ fm) && decide (fm ≤ 13)
theorem forms {p : Int → Prop} (h : ∀ k : Nat, k < 14 → p k) {fm : Int} (ho : isForm fm = true) : p fm := by
  simp only [isForm, Bool.and_eq_true, decide_eq_true_eq] at ho
  have := h fm.toNat (by omega)
  rwa [show (fm.toNat : Int) = fm by omega] at this
theorem usesAll (op : Int) (s : ByteArray) (opc f3 f7 kind : Int) : ∀ k : Nat, k < 14 → callK (ctx noΦ) 40 0 54 [rowV op s (k : Int) opc f3 f7 kind] [] (fun v _ => some v) = some (usesV (k : Int))
  | 0, _ => uses0 op s opc f3 f7 kind
  | 1, _ => uses1 op s opc f3 f7 kind
  | 2, _ => uses2 op s opc f3 f7 kind
  | 3, _ => uses3 op s opc f3 f7 kind
  | 4, _ => uses4 op s opc f3 f7 kind
  | 5, _ => uses5 op s opc f3 f7 kind
  | 6, _ => uses6 op s opc f3 f7 kind
  | 7, _ => uses7 op s opc f3 f7 kind
  | 8, _ => uses8 op s opc f3 f7 kind
  | 9, _ => uses9 op s opc f3 f7 kind
  | 10, _ => uses10 op s opc f3 f7 kind
  | 11, _ => uses11 op s opc f3 f7 kind
  | 12, _ => uses12 op s opc f3 f7 kind
  | 13, _ => uses13 op s opc f3 f7 kind
  | n + 14, h => absurd h (by omega)
theorem usesOK (op : Int) (s : ByteArray) (opc f3 f7 kind : Int) {fm : Int} (h : isForm fm = true) : PureOK Tryz.prog 54 [rowV op s fm opc f3 f7 kind] (usesV fm) :=
  forms (p := fun fm => PureOK Tryz.prog 54 [rowV op s fm opc f3 f7 kind] (usesV fm)) (fun k hk => PureOK.of_run noOK (usesAll op s opc f3 f7 kind k hk) (Gh.plain rfl)) h
def headV (a b c d e f : Int) : Value := .agg #[.int .u32 a, .int .u32 b, .int .u32 c, .int .u32 d, .int .u32 e, .int .u32 f]
def joinV (a b c d e f : Int) : Int := bits .or .u32 (bits .or .u32 (bits .or .u32 (bits .or .u32 (bits .or .u32 (bits .or .u32 0 (IntKind.u32.wrap (bits .and .u32 a 127 * 1))) (IntKind.u32.wrap (bits .and .u32 b 31 * 128))) (IntKind.u32.wrap (bits .and .u32 c 7 * 4096))) (IntKind.u32.wrap (bits .and .u32 d 31 * 32768))) (IntKind.u32.wrap (bits .and .u32 e 31 * 1048576))) (IntKind.u32.wrap (bits .and .u32 f 127 * 33554432))
theorem join_run (a b c d e f : Int) : callK (ctx noΦ) 20 0 56 [headV a b c d e f] [] (fun v _ => some v) = some (.int .u32 (joinV a b c d e f)) := by kernel_rfl
theorem joinWOK (a b c d e f : Int) : PureOK Tryz.prog 56 [headV a b c d e f] (.int .u32 (joinV a b c d e f)) := PureOK.of_run noOK (join_run a b c d e f) (Gh.plain rfl)
end Go.Proofs.YtgkicojmgokinaaGreatDoor.Ab
