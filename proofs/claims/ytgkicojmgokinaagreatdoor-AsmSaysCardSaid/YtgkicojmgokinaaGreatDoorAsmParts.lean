/- Trimmed: AsmParts -/
import Derived.Test.YtgkicojmgokinaaGreatDoorAsmText
namespace Go.Proofs.YtgkicojmgokinaaGreatDoor.Ab
open Go Go.RowKit
set_option linter.unusedVariables false
set_option linter.unusedSimpArgs false
set_option maxRecDepth 100000
def cox : ByteArray := ⟨⟨[48, 120]⟩⟩
def isReg (n : Int) : Bool := decide (0 ≤ n) && decide (n ≤ 31)
theorem reg64 {n : Int} (h : isReg n = true) : in64 n = true := by
  simp only [isReg, in64, Bool.and_eq_true, decide_eq_true_eq] at h ⊢
  omega
noncomputable def partsΦ (X Li Sg Pl Hx : Int → ByteArray) (Bt : Int → Int → Int → Int) : Oracle := fun lo f args H => match f with
  | 57 => match args with
    | [.int .i64 n] => some [(isReg n, .string (Li n), H)]
    | _ => none
  | 58 => match args with
    | [.int .i64 n] => some [(isReg n, .string (X n), H)]
    | _ => none
  | 59 => match args with
    | [.int .u32 n] => some [(true, .string (Pl n), H)]
    | _ => none
  | 60 => match args with
    | [.int .u32 n] => some [(true, .string (Sg n), H)]
    | _ => none
  | 47 => match args with
    | [.int .u32 n, .int .i64 3] => some [(true, .string (Hx n), H)]
    | _ => none
  | 61 => match args with
    | [.int .u32 x, .int .i64 l, .int .i64 n] => some [(isBits l n, .int .u32 (Bt x l n), H)]
    | _ => none
  | 62 => match args with
    | [.int .i64 n] => some [(isOp n, .int .i64 (kindF n), H)]
    | _ => none
  | _ => none
theorem partsΦ_ok  : CtxOK Tryz.prog (ctx (partsΦ (fun n => bs (xL n)) (fun n => bs (liL n)) (fun n => bs (sgL n)) (fun n => bs (plL n)) (fun n => bs (hxL n)) bitV)) := ctxOK fun lo f args H l v H' h hm => by
  unfold partsΦ at h
  split at h
  · split at h
    · cases h
      simp only [List.mem_cons, List.not_mem_nil, or_false, Prod.mk.injEq] at hm
      obtain ⟨hc, rfl, rfl⟩ := hm
      exact ⟨(liesOK (reg64 hc.symm)).call (gh_plains rfl) lo H', rfl⟩
    · cases h
  · split at h
    · cases h
      simp only [List.mem_cons, List.not_mem_nil, or_false, Prod.mk.injEq] at hm
      obtain ⟨hc, rfl, rfl⟩ := hm
      exact ⟨(xOK (reg64 hc.symm)).call (gh_plains rfl) lo H', rfl⟩
    · cases h
  · split at h
    · cases h
      simp only [List.mem_cons, List.not_mem_nil, or_false, Prod.mk.injEq] at hm
      obtain ⟨hc, rfl, rfl⟩ := hm
      exact ⟨(plainOK _).call (gh_plains rfl) lo H', rfl⟩
    · cases h
  · split at h
    · cases h
      simp only [List.mem_cons, List.not_mem_nil, or_false, Prod.mk.injEq] at hm
      obtain ⟨hc, rfl, rfl⟩ := hm
      exact ⟨(signedOK _).call (gh_plains rfl) lo H', rfl⟩
    · cases h
  · split at h
    · cases h
      simp only [List.mem_cons, List.not_mem_nil, or_false, Prod.mk.injEq] at hm
      obtain ⟨hc, rfl, rfl⟩ := hm
      exact ⟨(hex3OK _).call (gh_plains rfl) lo H', rfl⟩
    · cases h
  · split at h
    · cases h
      simp only [List.mem_cons, List.not_mem_nil, or_false, Prod.mk.injEq] at hm
      obtain ⟨hc, rfl, rfl⟩ := hm
      exact ⟨(bitsOK hc.symm).call (gh_plains rfl) lo H', rfl⟩
    · cases h
  · split at h
    · cases h
      simp only [List.mem_cons, List.not_mem_nil, or_false, Prod.mk.injEq] at hm
      obtain ⟨hc, rfl, rfl⟩ := hm
      exact ⟨(kindOK hc.symm).call (gh_plains rfl) lo H', rfl⟩
    · cases h
  · cases h
def sortL : List Nat := [0, 0, 1, 2, 3, 3, 3, 3, 3, 3, 2, 2, 2, 2, 2, 4, 4, 4, 5, 5, 5, 5, 5, 5, 6, 6, 6, 7, 7, 7, 7, 7, 7, 7, 7, 7, 7, 8, 9, 9, 9, 9, 9, 10, 11, 11, 11, 12, 12, 12, 7, 7, 7, 7, 7, 7, 7, 7, 13, 14, 14, 14, 14, 14, 14, 14, 14, 14, 14]
def sortF (op : Int) : Nat := sortL.getD (op - 1).toNat 0
def partsT0 (X Li Sg Pl Hx : Int → ByteArray) (Bt : Int → Int → Int → Int) (rd rs1 rs2 csr imm : Int) (aq rl : Bool) : Option Value := bif okLen cox (Hx (IntKind.u32.wrap csr)) then (bif isReg rd then (some (gs 1 [.string (X rd), .string (Pl (imm.fdiv 4096))] 2)) else none) else none
def partsT1 (X Li Sg Pl Hx : Int → ByteArray) (Bt : Int → Int → Int → Int) (rd rs1 rs2 csr imm : Int) (aq rl : Bool) : Option Value := bif okLen cox (Hx (IntKind.u32.wrap csr)) then (bif isReg rd then (some (gs 1 [.string (X rd), .string (Sg imm)] 2)) else none) else none
def partsT2 (X Li Sg Pl Hx : Int → ByteArray) (Bt : Int → Int → Int → Int) (rd rs1 rs2 csr imm : Int) (aq rl : Bool) : Option Value := bif okLen cox (Hx (IntKind.u32.wrap csr)) then (bif isReg rd then (bif isReg rs1 then (bif okLen (Sg imm) (Li rs1) then (some (gs 1 [.string (X rd), .string (Sg imm ++ Li rs1)] 2)) else none) else none) else none) else none
def partsT3 (X Li Sg Pl Hx : Int → ByteArray) (Bt : Int → Int → Int → Int) (rd rs1 rs2 csr imm : Int) (aq rl : Bool) : Option Value := bif okLen cox (Hx (IntKind.u32.wrap csr)) then (bif isReg rs1 then (bif isReg rs2 then (some (gs 1 [.string (X rs1), .string (X rs2), .string (Sg imm)] 3)) else none) else none) else none
def partsT4 (X Li Sg Pl Hx : Int → ByteArray) (Bt : Int → Int → Int → Int) (rd rs1 rs2 csr imm : Int) (aq rl : Bool) : Option Value := bif okLen cox (Hx (IntKind.u32.wrap csr)) then (bif isReg rs2 then (bif isReg rs1 then (bif okLen (Sg imm) (Li rs1) then (some (gs 1 [.string (X rs2), .string (Sg imm ++ Li rs1)] 2)) else none) else none) else none) else none
def partsT5 (X Li Sg Pl Hx : Int → ByteArray) (Bt : Int → Int → Int → Int) (rd rs1 rs2 csr imm : Int) (aq rl : Bool) : Option Value := bif okLen cox (Hx (IntKind.u32.wrap csr)) then (bif isReg rd then (bif isReg rs1 then (some (gs 1 [.string (X rd), .string (X rs1), .string (Sg imm)] 3)) else none) else none) else none
def partsT6 (X Li Sg Pl Hx : Int → ByteArray) (Bt : Int → Int → Int → Int) (rd rs1 rs2 csr imm : Int) (aq rl : Bool) : Option Value := bif okLen cox (Hx (IntKind.u32.wrap csr)) then (bif isReg rd then (bif isReg rs1 then (some (gs 1 [.string (X rd), .string (X rs1), .string (Pl imm)] 3)) else none) else none) else none
def partsT7 (X Li Sg Pl Hx : Int → ByteArray) (Bt : Int → Int → Int → Int) (rd rs1 rs2 csr imm : Int) (aq rl : Bool) : Option Value := bif okLen cox (Hx (IntKind.u32.wrap csr)) then (bif isReg rd then (bif isReg rs1 then (bif isReg rs2 then (some (gs 1 [.string (X rd), .string (X rs1), .string (X rs2)] 3)) else none) else none) else none) else none
def partsT8 (X Li Sg Pl Hx : Int → ByteArray) (Bt : Int → Int → Int → Int) (rd rs1 rs2 csr imm : Int) (aq rl : Bool) : Option Value := bif okLen cox (Hx (IntKind.u32.wrap csr)) then (some (gs 1 [.string (Pl (Bt imm 4 4)), .string (Pl (Bt imm 0 4))] 2)) else none
def partsT9 (X Li Sg Pl Hx : Int → ByteArray) (Bt : Int → Int → Int → Int) (rd rs1 rs2 csr imm : Int) (aq rl : Bool) : Option Value := bif okLen cox (Hx (IntKind.u32.wrap csr)) then (some (.slice none 0 0)) else none
def partsT10 (X Li Sg Pl Hx : Int → ByteArray) (Bt : Int → Int → Int → Int) (rd rs1 rs2 csr imm : Int) (aq rl : Bool) : Option Value := bif okLen cox (Hx (IntKind.u32.wrap csr)) then (bif isReg rs1 then (bif isReg rs2 then (some (gs 1 [.string (X rs1), .string (X rs2)] 2)) else none) else none) else none
def partsT11 (X Li Sg Pl Hx : Int → ByteArray) (Bt : Int → Int → Int → Int) (rd rs1 rs2 csr imm : Int) (aq rl : Bool) : Option Value := bif okLen cox (Hx (IntKind.u32.wrap csr)) then (bif isReg rd then (bif isReg rs1 then (some (gs 1 [.string (X rd), .string (cox ++ Hx (IntKind.u32.wrap csr)), .string (X rs1)] 3)) else none) else none) else none
def partsT12 (X Li Sg Pl Hx : Int → ByteArray) (Bt : Int → Int → Int → Int) (rd rs1 rs2 csr imm : Int) (aq rl : Bool) : Option Value := bif okLen cox (Hx (IntKind.u32.wrap csr)) then (bif isReg rd then (some (gs 1 [.string (X rd), .string (cox ++ Hx (IntKind.u32.wrap csr)), .string (Pl imm)] 3)) else none) else none
def partsT13 (X Li Sg Pl Hx : Int → ByteArray) (Bt : Int → Int → Int → Int) (rd rs1 rs2 csr imm : Int) (aq rl : Bool) : Option Value := bif okLen cox (Hx (IntKind.u32.wrap csr)) then (bif isReg rd then (bif isReg rs1 then (some (gs 1 [.string (X rd), .string (Li rs1)] 2)) else none) else none) else none
def partsT14 (X Li Sg Pl Hx : Int → ByteArray) (Bt : Int → Int → Int → Int) (rd rs1 rs2 csr imm : Int) (aq rl : Bool) : Option Value := bif okLen cox (Hx (IntKind.u32.wrap csr)) then (bif isReg rd then (bif isReg rs2 then (bif isReg rs1 then (some (gs 1 [.string (X rd), .string (X rs2), .string (Li rs1)] 3)) else none) else none) else none) else none
theorem parts0 (X Li Sg Pl Hx : Int → ByteArray) (Bt : Int → Int → Int → Int) (rd rs1 rs2 csr imm : Int) (aq rl : Bool) : callK (ctx (partsΦ X Li Sg Pl Hx Bt)) 20 0 27 [instV ⟨1, rd, rs1, rs2, csr, imm, aq, rl⟩] [] (fun v _ => some v) = partsT0 X Li Sg Pl Hx Bt rd rs1 rs2 csr imm aq rl := by kernel_rfl
theorem parts1 (X Li Sg Pl Hx : Int → ByteArray) (Bt : Int → Int → Int → Int) (rd rs1 rs2 csr imm : Int) (aq rl : Bool) : callK (ctx (partsΦ X Li Sg Pl Hx Bt)) 20 0 27 [instV ⟨2, rd, rs1, rs2, csr, imm, aq, rl⟩] [] (fun v _ => some v) = partsT0 X Li Sg Pl Hx Bt rd rs1 rs2 csr imm aq rl := by kernel_rfl
theorem parts2 (X Li Sg Pl Hx : Int → ByteArray) (Bt : Int → Int → Int → Int) (rd rs1 rs2 csr imm : Int) (aq rl : Bool) : callK (ctx (partsΦ X Li Sg Pl Hx Bt)) 20 0 27 [instV ⟨3, rd, rs1, rs2, csr, imm, aq, rl⟩] [] (fun v _ => some v) = partsT1 X Li Sg Pl Hx Bt rd rs1 rs2 csr imm aq rl := by kernel_rfl
theorem parts3 (X Li Sg Pl Hx : Int → ByteArray) (Bt : Int → Int → Int → Int) (rd rs1 rs2 csr imm : Int) (aq rl : Bool) : callK (ctx (partsΦ X Li Sg Pl Hx Bt)) 20 0 27 [instV ⟨4, rd, rs1, rs2, csr, imm, aq, rl⟩] [] (fun v _ => some v) = partsT2 X Li Sg Pl Hx Bt rd rs1 rs2 csr imm aq rl := by kernel_rfl
theorem parts4 (X Li Sg Pl Hx : Int → ByteArray) (Bt : Int → Int → Int → Int) (rd rs1 rs2 csr imm : Int) (aq rl : Bool) : callK (ctx (partsΦ X Li Sg Pl Hx Bt)) 20 0 27 [instV ⟨5, rd, rs1, rs2, csr, imm, aq, rl⟩] [] (fun v _ => some v) = partsT3 X Li Sg Pl Hx Bt rd rs1 rs2 csr imm aq rl := by kernel_rfl
theorem parts5 (X Li Sg Pl Hx : Int → ByteArray) (Bt : Int → Int → Int → Int) (rd rs1 rs2 csr imm : Int) (aq rl : Bool) : callK (ctx (partsΦ X Li Sg Pl Hx Bt)) 20 0 27 [instV ⟨6, rd, rs1, rs2, csr, imm, aq, rl⟩] [] (fun v _ => some v) = partsT3 X Li Sg Pl Hx Bt rd rs1 rs2 csr imm aq rl := by kernel_rfl
theorem parts6 (X Li Sg Pl Hx : Int → ByteArray) (Bt : Int → Int → Int → Int) (rd rs1 rs2 csr imm : Int) (aq rl : Bool) : callK (ctx (partsΦ X Li Sg Pl Hx Bt)) 20 0 27 [instV ⟨7, rd, rs1, rs2, csr, imm, aq, rl⟩] [] (fun v _ => some v) = partsT3 X Li Sg Pl Hx Bt rd rs1 rs2 csr imm aq rl := by kernel_rfl
theorem parts7 (X Li Sg Pl Hx : Int → ByteArray) (Bt : Int → Int → Int → Int) (rd rs1 rs2 csr imm : Int) (aq rl : Bool) : callK (ctx (partsΦ X Li Sg Pl Hx Bt)) 20 0 27 [instV ⟨8, rd, rs1, rs2, csr, imm, aq, rl⟩] [] (fun v _ => some v) = partsT3 X Li Sg Pl Hx Bt rd rs1 rs2 csr imm aq rl := by kernel_rfl
theorem parts8 (X Li Sg Pl Hx : Int → ByteArray) (Bt : Int → Int → Int → Int) (rd rs1 rs2 csr imm : Int) (aq rl : Bool) : callK (ctx (partsΦ X Li Sg Pl Hx Bt)) 20 0 27 [instV ⟨9, rd, rs1, rs2, csr, imm, aq, rl⟩] [] (fun v _ => some v) = partsT3 X Li Sg Pl Hx Bt rd rs1 rs2 csr imm aq rl := by kernel_rfl
theorem parts9 (X Li Sg Pl Hx : Int → ByteArray) (Bt : Int → Int → Int → Int) (rd rs1 rs2 csr imm : Int) (aq rl : Bool) : callK (ctx (partsΦ X Li Sg Pl Hx Bt)) 20 0 27 [instV ⟨10, rd, rs1, rs2, csr, imm, aq, rl⟩] [] (fun v _ => some v) = partsT3 X Li Sg Pl Hx Bt rd rs1 rs2 csr imm aq rl := by kernel_rfl
theorem parts10 (X Li Sg Pl Hx : Int → ByteArray) (Bt : Int → Int → Int → Int) (rd rs1 rs2 csr imm : Int) (aq rl : Bool) : callK (ctx (partsΦ X Li Sg Pl Hx Bt)) 20 0 27 [instV ⟨11, rd, rs1, rs2, csr, imm, aq, rl⟩] [] (fun v _ => some v) = partsT2 X Li Sg Pl Hx Bt rd rs1 rs2 csr imm aq rl := by kernel_rfl
theorem parts11 (X Li Sg Pl Hx : Int → ByteArray) (Bt : Int → Int → Int → Int) (rd rs1 rs2 csr imm : Int) (aq rl : Bool) : callK (ctx (partsΦ X Li Sg Pl Hx Bt)) 20 0 27 [instV ⟨12, rd, rs1, rs2, csr, imm, aq, rl⟩] [] (fun v _ => some v) = partsT2 X Li Sg Pl Hx Bt rd rs1 rs2 csr imm aq rl := by kernel_rfl
theorem parts12 (X Li Sg Pl Hx : Int → ByteArray) (Bt : Int → Int → Int → Int) (rd rs1 rs2 csr imm : Int) (aq rl : Bool) : callK (ctx (partsΦ X Li Sg Pl Hx Bt)) 20 0 27 [instV ⟨13, rd, rs1, rs2, csr, imm, aq, rl⟩] [] (fun v _ => some v) = partsT2 X Li Sg Pl Hx Bt rd rs1 rs2 csr imm aq rl := by kernel_rfl
theorem parts13 (X Li Sg Pl Hx : Int → ByteArray) (Bt : Int → Int → Int → Int) (rd rs1 rs2 csr imm : Int) (aq rl : Bool) : callK (ctx (partsΦ X Li Sg Pl Hx Bt)) 20 0 27 [instV ⟨14, rd, rs1, rs2, csr, imm, aq, rl⟩] [] (fun v _ => some v) = partsT2 X Li Sg Pl Hx Bt rd rs1 rs2 csr imm aq rl := by kernel_rfl
theorem parts14 (X Li Sg Pl Hx : Int → ByteArray) (Bt : Int → Int → Int → Int) (rd rs1 rs2 csr imm : Int) (aq rl : Bool) : callK (ctx (partsΦ X Li Sg Pl Hx Bt)) 20 0 27 [instV ⟨15, rd, rs1, rs2, csr, imm, aq, rl⟩] [] (fun v _ => some v) = partsT2 X Li Sg Pl Hx Bt rd rs1 rs2 csr imm aq rl := by kernel_rfl
theorem parts15 (X Li Sg Pl Hx : Int → ByteArray) (Bt : Int → Int → Int → Int) (rd rs1 rs2 csr imm : Int) (aq rl : Bool) : callK (ctx (partsΦ X Li Sg Pl Hx Bt)) 20 0 27 [instV ⟨16, rd, rs1, rs2, csr, imm, aq, rl⟩] [] (fun v _ => some v) = partsT4 X Li Sg Pl Hx Bt rd rs1 rs2 csr imm aq rl := by kernel_rfl
theorem parts16 (X Li Sg Pl Hx : Int → ByteArray) (Bt : Int → Int → Int → Int) (rd rs1 rs2 csr imm : Int) (aq rl : Bool) : callK (ctx (partsΦ X Li Sg Pl Hx Bt)) 20 0 27 [instV ⟨17, rd, rs1, rs2, csr, imm, aq, rl⟩] [] (fun v _ => some v) = partsT4 X Li Sg Pl Hx Bt rd rs1 rs2 csr imm aq rl := by kernel_rfl
theorem parts17 (X Li Sg Pl Hx : Int → ByteArray) (Bt : Int → Int → Int → Int) (rd rs1 rs2 csr imm : Int) (aq rl : Bool) : callK (ctx (partsΦ X Li Sg Pl Hx Bt)) 20 0 27 [instV ⟨18, rd, rs1, rs2, csr, imm, aq, rl⟩] [] (fun v _ => some v) = partsT4 X Li Sg Pl Hx Bt rd rs1 rs2 csr imm aq rl := by kernel_rfl
theorem parts18 (X Li Sg Pl Hx : Int → ByteArray) (Bt : Int → Int → Int → Int) (rd rs1 rs2 csr imm : Int) (aq rl : Bool) : callK (ctx (partsΦ X Li Sg Pl Hx Bt)) 20 0 27 [instV ⟨19, rd, rs1, rs2, csr, imm, aq, rl⟩] [] (fun v _ => some v) = partsT5 X Li Sg Pl Hx Bt rd rs1 rs2 csr imm aq rl := by kernel_rfl
theorem parts19 (X Li Sg Pl Hx : Int → ByteArray) (Bt : Int → Int → Int → Int) (rd rs1 rs2 csr imm : Int) (aq rl : Bool) : callK (ctx (partsΦ X Li Sg Pl Hx Bt)) 20 0 27 [instV ⟨20, rd, rs1, rs2, csr, imm, aq, rl⟩] [] (fun v _ => some v) = partsT5 X Li Sg Pl Hx Bt rd rs1 rs2 csr imm aq rl := by kernel_rfl
theorem parts20 (X Li Sg Pl Hx : Int → ByteArray) (Bt : Int → Int → Int → Int) (rd rs1 rs2 csr imm : Int) (aq rl : Bool) : callK (ctx (partsΦ X Li Sg Pl Hx Bt)) 20 0 27 [instV ⟨21, rd, rs1, rs2, csr, imm, aq, rl⟩] [] (fun v _ => some v) = partsT5 X Li Sg Pl Hx Bt rd rs1 rs2 csr imm aq rl := by kernel_rfl
theorem parts21 (X Li Sg Pl Hx : Int → ByteArray) (Bt : Int → Int → Int → Int) (rd rs1 rs2 csr imm : Int) (aq rl : Bool) : callK (ctx (partsΦ X Li Sg Pl Hx Bt)) 20 0 27 [instV ⟨22, rd, rs1, rs2, csr, imm, aq, rl⟩] [] (fun v _ => some v) = partsT5 X Li Sg Pl Hx Bt rd rs1 rs2 csr imm aq rl := by kernel_rfl
theorem parts22 (X Li Sg Pl Hx : Int → ByteArray) (Bt : Int → Int → Int → Int) (rd rs1 rs2 csr imm : Int) (aq rl : Bool) : callK (ctx (partsΦ X Li Sg Pl Hx Bt)) 20 0 27 [instV ⟨23, rd, rs1, rs2, csr, imm, aq, rl⟩] [] (fun v _ => some v) = partsT5 X Li Sg Pl Hx Bt rd rs1 rs2 csr imm aq rl := by kernel_rfl
theorem parts23 (X Li Sg Pl Hx : Int → ByteArray) (Bt : Int → Int → Int → Int) (rd rs1 rs2 csr imm : Int) (aq rl : Bool) : callK (ctx (partsΦ X Li Sg Pl Hx Bt)) 20 0 27 [instV ⟨24, rd, rs1, rs2, csr, imm, aq, rl⟩] [] (fun v _ => some v) = partsT5 X Li Sg Pl Hx Bt rd rs1 rs2 csr imm aq rl := by kernel_rfl
theorem parts24 (X Li Sg Pl Hx : Int → ByteArray) (Bt : Int → Int → Int → Int) (rd rs1 rs2 csr imm : Int) (aq rl : Bool) : callK (ctx (partsΦ X Li Sg Pl Hx Bt)) 20 0 27 [instV ⟨25, rd, rs1, rs2, csr, imm, aq, rl⟩] [] (fun v _ => some v) = partsT6 X Li Sg Pl Hx Bt rd rs1 rs2 csr imm aq rl := by kernel_rfl
theorem parts25 (X Li Sg Pl Hx : Int → ByteArray) (Bt : Int → Int → Int → Int) (rd rs1 rs2 csr imm : Int) (aq rl : Bool) : callK (ctx (partsΦ X Li Sg Pl Hx Bt)) 20 0 27 [instV ⟨26, rd, rs1, rs2, csr, imm, aq, rl⟩] [] (fun v _ => some v) = partsT6 X Li Sg Pl Hx Bt rd rs1 rs2 csr imm aq rl := by kernel_rfl
theorem parts26 (X Li Sg Pl Hx : Int → ByteArray) (Bt : Int → Int → Int → Int) (rd rs1 rs2 csr imm : Int) (aq rl : Bool) : callK (ctx (partsΦ X Li Sg Pl Hx Bt)) 20 0 27 [instV ⟨27, rd, rs1, rs2, csr, imm, aq, rl⟩] [] (fun v _ => some v) = partsT6 X Li Sg Pl Hx Bt rd rs1 rs2 csr imm aq rl := by kernel_rfl
theorem parts27 (X Li Sg Pl Hx : Int → ByteArray) (Bt : Int → Int → Int → Int) (rd rs1 rs2 csr imm : Int) (aq rl : Bool) : callK (ctx (partsΦ X Li Sg Pl Hx Bt)) 20 0 27 [instV ⟨28, rd, rs1, rs2, csr, imm, aq, rl⟩] [] (fun v _ => some v) = partsT7 X Li Sg Pl Hx Bt rd rs1 rs2 csr imm aq rl := by kernel_rfl
theorem parts28 (X Li Sg Pl Hx : Int → ByteArray) (Bt : Int → Int → Int → Int) (rd rs1 rs2 csr imm : Int) (aq rl : Bool) : callK (ctx (partsΦ X Li Sg Pl Hx Bt)) 20 0 27 [instV ⟨29, rd, rs1, rs2, csr, imm, aq, rl⟩] [] (fun v _ => some v) = partsT7 X Li Sg Pl Hx Bt rd rs1 rs2 csr imm aq rl := by kernel_rfl
theorem parts29 (X Li Sg Pl Hx : Int → ByteArray) (Bt : Int → Int → Int → Int) (rd rs1 rs2 csr imm : Int) (aq rl : Bool) : callK (ctx (partsΦ X Li Sg Pl Hx Bt)) 20 0 27 [instV ⟨30, rd, rs1, rs2, csr, imm, aq, rl⟩] [] (fun v _ => some v) = partsT7 X Li Sg Pl Hx Bt rd rs1 rs2 csr imm aq rl := by kernel_rfl
theorem parts30 (X Li Sg Pl Hx : Int → ByteArray) (Bt : Int → Int → Int → Int) (rd rs1 rs2 csr imm : Int) (aq rl : Bool) : callK (ctx (partsΦ X Li Sg Pl Hx Bt)) 20 0 27 [instV ⟨31, rd, rs1, rs2, csr, imm, aq, rl⟩] [] (fun v _ => some v) = partsT7 X Li Sg Pl Hx Bt rd rs1 rs2 csr imm aq rl := by kernel_rfl
theorem parts31 (X Li Sg Pl Hx : Int → ByteArray) (Bt : Int → Int → Int → Int) (rd rs1 rs2 csr imm : Int) (aq rl : Bool) : callK (ctx (partsΦ X Li Sg Pl Hx Bt)) 20 0 27 [instV ⟨32, rd, rs1, rs2, csr, imm, aq, rl⟩] [] (fun v _ => some v) = partsT7 X Li Sg Pl Hx Bt rd rs1 rs2 csr imm aq rl := by kernel_rfl
theorem parts32 (X Li Sg Pl Hx : Int → ByteArray) (Bt : Int → Int → Int → Int) (rd rs1 rs2 csr imm : Int) (aq rl : Bool) : callK (ctx (partsΦ X Li Sg Pl Hx Bt)) 20 0 27 [instV ⟨33, rd, rs1, rs2, csr, imm, aq, rl⟩] [] (fun v _ => some v) = partsT7 X Li Sg Pl Hx Bt rd rs1 rs2 csr imm aq rl := by kernel_rfl
theorem parts33 (X Li Sg Pl Hx : Int → ByteArray) (Bt : Int → Int → Int → Int) (rd rs1 rs2 csr imm : Int) (aq rl : Bool) : callK (ctx (partsΦ X Li Sg Pl Hx Bt)) 20 0 27 [instV ⟨34, rd, rs1, rs2, csr, imm, aq, rl⟩] [] (fun v _ => some v) = partsT7 X Li Sg Pl Hx Bt rd rs1 rs2 csr imm aq rl := by kernel_rfl
theorem parts34 (X Li Sg Pl Hx : Int → ByteArray) (Bt : Int → Int → Int → Int) (rd rs1 rs2 csr imm : Int) (aq rl : Bool) : callK (ctx (partsΦ X Li Sg Pl Hx Bt)) 20 0 27 [instV ⟨35, rd, rs1, rs2, csr, imm, aq, rl⟩] [] (fun v _ => some v) = partsT7 X Li Sg Pl Hx Bt rd rs1 rs2 csr imm aq rl := by kernel_rfl
theorem parts35 (X Li Sg Pl Hx : Int → ByteArray) (Bt : Int → Int → Int → Int) (rd rs1 rs2 csr imm : Int) (aq rl : Bool) : callK (ctx (partsΦ X Li Sg Pl Hx Bt)) 20 0 27 [instV ⟨36, rd, rs1, rs2, csr, imm, aq, rl⟩] [] (fun v _ => some v) = partsT7 X Li Sg Pl Hx Bt rd rs1 rs2 csr imm aq rl := by kernel_rfl
theorem parts36 (X Li Sg Pl Hx : Int → ByteArray) (Bt : Int → Int → Int → Int) (rd rs1 rs2 csr imm : Int) (aq rl : Bool) : callK (ctx (partsΦ X Li Sg Pl Hx Bt)) 20 0 27 [instV ⟨37, rd, rs1, rs2, csr, imm, aq, rl⟩] [] (fun v _ => some v) = partsT7 X Li Sg Pl Hx Bt rd rs1 rs2 csr imm aq rl := by kernel_rfl
theorem parts37 (X Li Sg Pl Hx : Int → ByteArray) (Bt : Int → Int → Int → Int) (rd rs1 rs2 csr imm : Int) (aq rl : Bool) : callK (ctx (partsΦ X Li Sg Pl Hx Bt)) 20 0 27 [instV ⟨38, rd, rs1, rs2, csr, imm, aq, rl⟩] [] (fun v _ => some v) = partsT8 X Li Sg Pl Hx Bt rd rs1 rs2 csr imm aq rl := by kernel_rfl
theorem parts38 (X Li Sg Pl Hx : Int → ByteArray) (Bt : Int → Int → Int → Int) (rd rs1 rs2 csr imm : Int) (aq rl : Bool) : callK (ctx (partsΦ X Li Sg Pl Hx Bt)) 20 0 27 [instV ⟨39, rd, rs1, rs2, csr, imm, aq, rl⟩] [] (fun v _ => some v) = partsT9 X Li Sg Pl Hx Bt rd rs1 rs2 csr imm aq rl := by kernel_rfl
theorem parts39 (X Li Sg Pl Hx : Int → ByteArray) (Bt : Int → Int → Int → Int) (rd rs1 rs2 csr imm : Int) (aq rl : Bool) : callK (ctx (partsΦ X Li Sg Pl Hx Bt)) 20 0 27 [instV ⟨40, rd, rs1, rs2, csr, imm, aq, rl⟩] [] (fun v _ => some v) = partsT9 X Li Sg Pl Hx Bt rd rs1 rs2 csr imm aq rl := by kernel_rfl
theorem parts40 (X Li Sg Pl Hx : Int → ByteArray) (Bt : Int → Int → Int → Int) (rd rs1 rs2 csr imm : Int) (aq rl : Bool) : callK (ctx (partsΦ X Li Sg Pl Hx Bt)) 20 0 27 [instV ⟨41, rd, rs1, rs2, csr, imm, aq, rl⟩] [] (fun v _ => some v) = partsT9 X Li Sg Pl Hx Bt rd rs1 rs2 csr imm aq rl := by kernel_rfl
theorem parts41 (X Li Sg Pl Hx : Int → ByteArray) (Bt : Int → Int → Int → Int) (rd rs1 rs2 csr imm : Int) (aq rl : Bool) : callK (ctx (partsΦ X Li Sg Pl Hx Bt)) 20 0 27 [instV ⟨42, rd, rs1, rs2, csr, imm, aq, rl⟩] [] (fun v _ => some v) = partsT9 X Li Sg Pl Hx Bt rd rs1 rs2 csr imm aq rl := by kernel_rfl
theorem parts42 (X Li Sg Pl Hx : Int → ByteArray) (Bt : Int → Int → Int → Int) (rd rs1 rs2 csr imm : Int) (aq rl : Bool) : callK (ctx (partsΦ X Li Sg Pl Hx Bt)) 20 0 27 [instV ⟨43, rd, rs1, rs2, csr, imm, aq, rl⟩] [] (fun v _ => some v) = partsT9 X Li Sg Pl Hx Bt rd rs1 rs2 csr imm aq rl := by kernel_rfl
theorem parts43 (X Li Sg Pl Hx : Int → ByteArray) (Bt : Int → Int → Int → Int) (rd rs1 rs2 csr imm : Int) (aq rl : Bool) : callK (ctx (partsΦ X Li Sg Pl Hx Bt)) 20 0 27 [instV ⟨44, rd, rs1, rs2, csr, imm, aq, rl⟩] [] (fun v _ => some v) = partsT10 X Li Sg Pl Hx Bt rd rs1 rs2 csr imm aq rl := by kernel_rfl
theorem parts44 (X Li Sg Pl Hx : Int → ByteArray) (Bt : Int → Int → Int → Int) (rd rs1 rs2 csr imm : Int) (aq rl : Bool) : callK (ctx (partsΦ X Li Sg Pl Hx Bt)) 20 0 27 [instV ⟨45, rd, rs1, rs2, csr, imm, aq, rl⟩] [] (fun v _ => some v) = partsT11 X Li Sg Pl Hx Bt rd rs1 rs2 csr imm aq rl := by kernel_rfl
theorem parts45 (X Li Sg Pl Hx : Int → ByteArray) (Bt : Int → Int → Int → Int) (rd rs1 rs2 csr imm : Int) (aq rl : Bool) : callK (ctx (partsΦ X Li Sg Pl Hx Bt)) 20 0 27 [instV ⟨46, rd, rs1, rs2, csr, imm, aq, rl⟩] [] (fun v _ => some v) = partsT11 X Li Sg Pl Hx Bt rd rs1 rs2 csr imm aq rl := by kernel_rfl
theorem parts46 (X Li Sg Pl Hx : Int → ByteArray) (Bt : Int → Int → Int → Int) (rd rs1 rs2 csr imm : Int) (aq rl : Bool) : callK (ctx (partsΦ X Li Sg Pl Hx Bt)) 20 0 27 [instV ⟨47, rd, rs1, rs2, csr, imm, aq, rl⟩] [] (fun v _ => some v) = partsT11 X Li Sg Pl Hx Bt rd rs1 rs2 csr imm aq rl := by kernel_rfl
theorem parts47 (X Li Sg Pl Hx : Int → ByteArray) (Bt : Int → Int → Int → Int) (rd rs1 rs2 csr imm : Int) (aq rl : Bool) : callK (ctx (partsΦ X Li Sg Pl Hx Bt)) 20 0 27 [instV ⟨48, rd, rs1, rs2, csr, imm, aq, rl⟩] [] (fun v _ => some v) = partsT12 X Li Sg Pl Hx Bt rd rs1 rs2 csr imm aq rl := by kernel_rfl
theorem parts48 (X Li Sg Pl Hx : Int → ByteArray) (Bt : Int → Int → Int → Int) (rd rs1 rs2 csr imm : Int) (aq rl : Bool) : callK (ctx (partsΦ X Li Sg Pl Hx Bt)) 20 0 27 [instV ⟨49, rd, rs1, rs2, csr, imm, aq, rl⟩] [] (fun v _ => some v) = partsT12 X Li Sg Pl Hx Bt rd rs1 rs2 csr imm aq rl := by kernel_rfl
theorem parts49 (X Li Sg Pl Hx : Int → ByteArray) (Bt : Int → Int → Int → Int) (rd rs1 rs2 csr imm : Int) (aq rl : Bool) : callK (ctx (partsΦ X Li Sg Pl Hx Bt)) 20 0 27 [instV ⟨50, rd, rs1, rs2, csr, imm, aq, rl⟩] [] (fun v _ => some v) = partsT12 X Li Sg Pl Hx Bt rd rs1 rs2 csr imm aq rl := by kernel_rfl
theorem parts50 (X Li Sg Pl Hx : Int → ByteArray) (Bt : Int → Int → Int → Int) (rd rs1 rs2 csr imm : Int) (aq rl : Bool) : callK (ctx (partsΦ X Li Sg Pl Hx Bt)) 20 0 27 [instV ⟨51, rd, rs1, rs2, csr, imm, aq, rl⟩] [] (fun v _ => some v) = partsT7 X Li Sg Pl Hx Bt rd rs1 rs2 csr imm aq rl := by kernel_rfl
theorem parts51 (X Li Sg Pl Hx : Int → ByteArray) (Bt : Int → Int → Int → Int) (rd rs1 rs2 csr imm : Int) (aq rl : Bool) : callK (ctx (partsΦ X Li Sg Pl Hx Bt)) 20 0 27 [instV ⟨52, rd, rs1, rs2, csr, imm, aq, rl⟩] [] (fun v _ => some v) = partsT7 X Li Sg Pl Hx Bt rd rs1 rs2 csr imm aq rl := by kernel_rfl
theorem parts52 (X Li Sg Pl Hx : Int → ByteArray) (Bt : Int → Int → Int → Int) (rd rs1 rs2 csr imm : Int) (aq rl : Bool) : callK (ctx (partsΦ X Li Sg Pl Hx Bt)) 20 0 27 [instV ⟨53, rd, rs1, rs2, csr, imm, aq, rl⟩] [] (fun v _ => some v) = partsT7 X Li Sg Pl Hx Bt rd rs1 rs2 csr imm aq rl := by kernel_rfl
theorem parts53 (X Li Sg Pl Hx : Int → ByteArray) (Bt : Int → Int → Int → Int) (rd rs1 rs2 csr imm : Int) (aq rl : Bool) : callK (ctx (partsΦ X Li Sg Pl Hx Bt)) 20 0 27 [instV ⟨54, rd, rs1, rs2, csr, imm, aq, rl⟩] [] (fun v _ => some v) = partsT7 X Li Sg Pl Hx Bt rd rs1 rs2 csr imm aq rl := by kernel_rfl
theorem parts54 (X Li Sg Pl Hx : Int → ByteArray) (Bt : Int → Int → Int → Int) (rd rs1 rs2 csr imm : Int) (aq rl : Bool) : callK (ctx (partsΦ X Li Sg Pl Hx Bt)) 20 0 27 [instV ⟨55, rd, rs1, rs2, csr, imm, aq, rl⟩] [] (fun v _ => some v) = partsT7 X Li Sg Pl Hx Bt rd rs1 rs2 csr imm aq rl := by kernel_rfl
theorem parts55 (X Li Sg Pl Hx : Int → ByteArray) (Bt : Int → Int → Int → Int) (rd rs1 rs2 csr imm : Int) (aq rl : Bool) : callK (ctx (partsΦ X Li Sg Pl Hx Bt)) 20 0 27 [instV ⟨56, rd, rs1, rs2, csr, imm, aq, rl⟩] [] (fun v _ => some v) = partsT7 X Li Sg Pl Hx Bt rd rs1 rs2 csr imm aq rl := by kernel_rfl
theorem parts56 (X Li Sg Pl Hx : Int → ByteArray) (Bt : Int → Int → Int → Int) (rd rs1 rs2 csr imm : Int) (aq rl : Bool) : callK (ctx (partsΦ X Li Sg Pl Hx Bt)) 20 0 27 [instV ⟨57, rd, rs1, rs2, csr, imm, aq, rl⟩] [] (fun v _ => some v) = partsT7 X Li Sg Pl Hx Bt rd rs1 rs2 csr imm aq rl := by kernel_rfl
theorem parts57 (X Li Sg Pl Hx : Int → ByteArray) (Bt : Int → Int → Int → Int) (rd rs1 rs2 csr imm : Int) (aq rl : Bool) : callK (ctx (partsΦ X Li Sg Pl Hx Bt)) 20 0 27 [instV ⟨58, rd, rs1, rs2, csr, imm, aq, rl⟩] [] (fun v _ => some v) = partsT7 X Li Sg Pl Hx Bt rd rs1 rs2 csr imm aq rl := by kernel_rfl
theorem parts58 (X Li Sg Pl Hx : Int → ByteArray) (Bt : Int → Int → Int → Int) (rd rs1 rs2 csr imm : Int) (aq rl : Bool) : callK (ctx (partsΦ X Li Sg Pl Hx Bt)) 20 0 27 [instV ⟨59, rd, rs1, rs2, csr, imm, aq, rl⟩] [] (fun v _ => some v) = partsT13 X Li Sg Pl Hx Bt rd rs1 rs2 csr imm aq rl := by kernel_rfl
theorem parts59 (X Li Sg Pl Hx : Int → ByteArray) (Bt : Int → Int → Int → Int) (rd rs1 rs2 csr imm : Int) (aq rl : Bool) : callK (ctx (partsΦ X Li Sg Pl Hx Bt)) 20 0 27 [instV ⟨60, rd, rs1, rs2, csr, imm, aq, rl⟩] [] (fun v _ => some v) = partsT14 X Li Sg Pl Hx Bt rd rs1 rs2 csr imm aq rl := by kernel_rfl
theorem parts60 (X Li Sg Pl Hx : Int → ByteArray) (Bt : Int → Int → Int → Int) (rd rs1 rs2 csr imm : Int) (aq rl : Bool) : callK (ctx (partsΦ X Li Sg Pl Hx Bt)) 20 0 27 [instV ⟨61, rd, rs1, rs2, csr, imm, aq, rl⟩] [] (fun v _ => some v) = partsT14 X Li Sg Pl Hx Bt rd rs1 rs2 csr imm aq rl := by kernel_rfl
theorem parts61 (X Li Sg Pl Hx : Int → ByteArray) (Bt : Int → Int → Int → Int) (rd rs1 rs2 csr imm : Int) (aq rl : Bool) : callK (ctx (partsΦ X Li Sg Pl Hx Bt)) 20 0 27 [instV ⟨62, rd, rs1, rs2, csr, imm, aq, rl⟩] [] (fun v _ => some v) = partsT14 X Li Sg Pl Hx Bt rd rs1 rs2 csr imm aq rl := by kernel_rfl
theorem parts62 (X Li Sg Pl Hx : Int → ByteArray) (Bt : Int → Int → Int → Int) (rd rs1 rs2 csr imm : Int) (aq rl : Bool) : callK (ctx (partsΦ X Li Sg Pl Hx Bt)) 20 0 27 [instV ⟨63, rd, rs1, rs2, csr, imm, aq, rl⟩] [] (fun v _ => some v) = partsT14 X Li Sg Pl Hx Bt rd rs1 rs2 csr imm aq rl := by kernel_rfl
theorem parts63 (X Li Sg Pl Hx : Int → ByteArray) (Bt : Int → Int → Int → Int) (rd rs1 rs2 csr imm : Int) (aq rl : Bool) : callK (ctx (partsΦ X Li Sg Pl Hx Bt)) 20 0 27 [instV ⟨64, rd, rs1, rs2, csr, imm, aq, rl⟩] [] (fun v _ => some v) = partsT14 X Li Sg Pl Hx Bt rd rs1 rs2 csr imm aq rl := by kernel_rfl
theorem parts64 (X Li Sg Pl Hx : Int → ByteArray) (Bt : Int → Int → Int → Int) (rd rs1 rs2 csr imm : Int) (aq rl : Bool) : callK (ctx (partsΦ X Li Sg Pl Hx Bt)) 20 0 27 [instV ⟨65, rd, rs1, rs2, csr, imm, aq, rl⟩] [] (fun v _ => some v) = partsT14 X Li Sg Pl Hx Bt rd rs1 rs2 csr imm aq rl := by kernel_rfl
theorem parts65 (X Li Sg Pl Hx : Int → ByteArray) (Bt : Int → Int → Int → Int) (rd rs1 rs2 csr imm : Int) (aq rl : Bool) : callK (ctx (partsΦ X Li Sg Pl Hx Bt)) 20 0 27 [instV ⟨66, rd, rs1, rs2, csr, imm, aq, rl⟩] [] (fun v _ => some v) = partsT14 X Li Sg Pl Hx Bt rd rs1 rs2 csr imm aq rl := by kernel_rfl
theorem parts66 (X Li Sg Pl Hx : Int → ByteArray) (Bt : Int → Int → Int → Int) (rd rs1 rs2 csr imm : Int) (aq rl : Bool) : callK (ctx (partsΦ X Li Sg Pl Hx Bt)) 20 0 27 [instV ⟨67, rd, rs1, rs2, csr, imm, aq, rl⟩] [] (fun v _ => some v) = partsT14 X Li Sg Pl Hx Bt rd rs1 rs2 csr imm aq rl := by kernel_rfl
theorem parts67 (X Li Sg Pl Hx : Int → ByteArray) (Bt : Int → Int → Int → Int) (rd rs1 rs2 csr imm : Int) (aq rl : Bool) : callK (ctx (partsΦ X Li Sg Pl Hx Bt)) 20 0 27 [instV ⟨68, rd, rs1, rs2, csr, imm, aq, rl⟩] [] (fun v _ => some v) = partsT14 X Li Sg Pl Hx Bt rd rs1 rs2 csr imm aq rl := by kernel_rfl
theorem parts68 (X Li Sg Pl Hx : Int → ByteArray) (Bt : Int → Int → Int → Int) (rd rs1 rs2 csr imm : Int) (aq rl : Bool) : callK (ctx (partsΦ X Li Sg Pl Hx Bt)) 20 0 27 [instV ⟨69, rd, rs1, rs2, csr, imm, aq, rl⟩] [] (fun v _ => some v) = partsT14 X Li Sg Pl Hx Bt rd rs1 rs2 csr imm aq rl := by kernel_rfl
def partsL (i : Inst) : List (List UInt8) := match sortF i.op with
  | 0 => [xL i.rd, plL (i.imm.fdiv 4096)]
  | 1 => [xL i.rd, sgL i.imm]
  | 2 => [xL i.rd, sgL i.imm ++ liL i.rs1]
  | 3 => [xL i.rs1, xL i.rs2, sgL i.imm]
  | 4 => [xL i.rs2, sgL i.imm ++ liL i.rs1]
  | 5 => [xL i.rd, xL i.rs1, sgL i.imm]
  | 6 => [xL i.rd, xL i.rs1, plL i.imm]
  | 7 => [xL i.rd, xL i.rs1, xL i.rs2]
  | 8 => [plL (bitV i.imm 4 4), plL (bitV i.imm 0 4)]
  | 9 => []
  | 10 => [xL i.rs1, xL i.rs2]
  | 11 => [xL i.rd, 48 :: 120 :: hxL (IntKind.u32.wrap i.csr), xL i.rs1]
  | 12 => [xL i.rd, 48 :: 120 :: hxL (IntKind.u32.wrap i.csr), plL i.imm]
  | 13 => [xL i.rd, liL i.rs1]
  | 14 => [xL i.rd, xL i.rs2, liL i.rs1]
  | _ => []
structure Fits (i : Inst) : Prop where
  op : isOp i.op = true
  rd : isReg i.rd = true
  rs1 : isReg i.rs1 = true
  rs2 : isReg i.rs2 = true
def partsV (i : Inst) : Value := bif (partsL i).isEmpty then .slice none 0 0 else gs 1 ((partsL i).map sv) (partsL i).length
theorem sg_len (w : Int) : (sgL w).length ≤ 21 := itoa_len (in64_wrap _)
theorem x_len {n : Int} (h : isReg n = true) : (xL n).length ≤ 22 := by have := itoa_len (reg64 h); simp [xL]; omega
theorem li_len {n : Int} (h : isReg n = true) : (liL n).length ≤ 24 := by have := x_len h; simp [liL]; omega
theorem partsR0 (rd rs1 rs2 csr imm : Int) (aq rl : Bool) (h1 : isReg rd = true) (h2 : isReg rs1 = true) (h3 : isReg rs2 = true) (op : Int) (ho : sortF op = 0) : partsT0 (fun n => bs (xL n)) (fun n => bs (liL n)) (fun n => bs (sgL n)) (fun n => bs (plL n)) (fun n => bs (hxL n)) bitV rd rs1 rs2 csr imm aq rl = some (partsV ⟨op, rd, rs1, rs2, csr, imm, aq, rl⟩) := by
  have hk : okLen cox (bs (hxL (IntKind.u32.wrap csr))) = true := okLen_of (a := [48, 120]) (by simp [hxL])
  unfold partsT0
  simp only [hk, cond_true, h1]
  have e : partsL ⟨op, rd, rs1, rs2, csr, imm, aq, rl⟩ = [xL rd, plL (imm.fdiv 4096)] := by unfold partsL; rw [show sortF (⟨op, rd, rs1, rs2, csr, imm, aq, rl⟩ : Inst).op = 0 from ho] <;> rfl
  unfold partsV
  rw [e]
  rfl
theorem partsR1 (rd rs1 rs2 csr imm : Int) (aq rl : Bool) (h1 : isReg rd = true) (h2 : isReg rs1 = true) (h3 : isReg rs2 = true) (op : Int) (ho : sortF op = 1) : partsT1 (fun n => bs (xL n)) (fun n => bs (liL n)) (fun n => bs (sgL n)) (fun n => bs (plL n)) (fun n => bs (hxL n)) bitV rd rs1 rs2 csr imm aq rl = some (partsV ⟨op, rd, rs1, rs2, csr, imm, aq, rl⟩) := by
  have hk : okLen cox (bs (hxL (IntKind.u32.wrap csr))) = true := okLen_of (a := [48, 120]) (by simp [hxL])
  unfold partsT1
  simp only [hk, cond_true, h1]
  have e : partsL ⟨op, rd, rs1, rs2, csr, imm, aq, rl⟩ = [xL rd, sgL imm] := by unfold partsL; rw [show sortF (⟨op, rd, rs1, rs2, csr, imm, aq, rl⟩ : Inst).op = 1 from ho] <;> rfl
  unfold partsV
  rw [e]
  rfl
theorem partsR2 (rd rs1 rs2 csr imm : Int) (aq rl : Bool) (h1 : isReg rd = true) (h2 : isReg rs1 = true) (h3 : isReg rs2 = true) (op : Int) (ho : sortF op = 2) : partsT2 (fun n => bs (xL n)) (fun n => bs (liL n)) (fun n => bs (sgL n)) (fun n => bs (plL n)) (fun n => bs (hxL n)) bitV rd rs1 rs2 csr imm aq rl = some (partsV ⟨op, rd, rs1, rs2, csr, imm, aq, rl⟩) := by
  have hk : okLen cox (bs (hxL (IntKind.u32.wrap csr))) = true := okLen_of (a := [48, 120]) (by simp [hxL])
  have hs : okLen (bs (sgL imm)) (bs (liL rs1)) = true := okLen_of (by have := sg_len imm; have := li_len h2; omega)
  unfold partsT2
  simp only [hk, cond_true, h1, h2, hs]
  have e : partsL ⟨op, rd, rs1, rs2, csr, imm, aq, rl⟩ = [xL rd, sgL imm ++ liL rs1] := by unfold partsL; rw [show sortF (⟨op, rd, rs1, rs2, csr, imm, aq, rl⟩ : Inst).op = 2 from ho] <;> rfl
  unfold partsV
  rw [e]
  rfl
theorem partsR3 (rd rs1 rs2 csr imm : Int) (aq rl : Bool) (h1 : isReg rd = true) (h2 : isReg rs1 = true) (h3 : isReg rs2 = true) (op : Int) (ho : sortF op = 3) : partsT3 (fun n => bs (xL n)) (fun n => bs (liL n)) (fun n => bs (sgL n)) (fun n => bs (plL n)) (fun n => bs (hxL n)) bitV rd rs1 rs2 csr imm aq rl = some (partsV ⟨op, rd, rs1, rs2, csr, imm, aq, rl⟩) := by
  have hk : okLen cox (bs (hxL (IntKind.u32.wrap csr))) = true := okLen_of (a := [48, 120]) (by simp [hxL])
  unfold partsT3
  simp only [hk, cond_true, h2, h3]
  have e : partsL ⟨op, rd, rs1, rs2, csr, imm, aq, rl⟩ = [xL rs1, xL rs2, sgL imm] := by unfold partsL; rw [show sortF (⟨op, rd, rs1, rs2, csr, imm, aq, rl⟩ : Inst).op = 3 from ho] <;> rfl
  unfold partsV
  rw [e]
  rfl
theorem partsR4 (rd rs1 rs2 csr imm : Int) (aq rl : Bool) (h1 : isReg rd = true) (h2 : isReg rs1 = true) (h3 : isReg rs2 = true) (op : Int) (ho : sortF op = 4) : partsT4 (fun n => bs (xL n)) (fun n => bs (liL n)) (fun n => bs (sgL n)) (fun n => bs (plL n)) (fun n => bs (hxL n)) bitV rd rs1 rs2 csr imm aq rl = some (partsV ⟨op, rd, rs1, rs2, csr, imm, aq, rl⟩) := by
  have hk : okLen cox (bs (hxL (IntKind.u32.wrap csr))) = true := okLen_of (a := [48, 120]) (by simp [hxL])
  have hs : okLen (bs (sgL imm)) (bs (liL rs1)) = true := okLen_of (by have := sg_len imm; have := li_len h2; omega)
  unfold partsT4
  simp only [hk, cond_true, h3, h2, hs]
  have e : partsL ⟨op, rd, rs1, rs2, csr, imm, aq, rl⟩ = [xL rs2, sgL imm ++ liL rs1] := by unfold partsL; rw [show sortF (⟨op, rd, rs1, rs2, csr, imm, aq, rl⟩ : Inst).op = 4 from ho] <;> rfl
  unfold partsV
  rw [e]
  rfl
theorem partsR5 (rd rs1 rs2 csr imm : Int) (aq rl : Bool) (h1 : isReg rd = true) (h2 : isReg rs1 = true) (h3 : isReg rs2 = true) (op : Int) (ho : sortF op = 5) : partsT5 (fun n => bs (xL n)) (fun n => bs (liL n)) (fun n => bs (sgL n)) (fun n => bs (plL n)) (fun n => bs (hxL n)) bitV rd rs1 rs2 csr imm aq rl = some (partsV ⟨op, rd, rs1, rs2, csr, imm, aq, rl⟩) := by
  have hk : okLen cox (bs (hxL (IntKind.u32.wrap csr))) = true := okLen_of (a := [48, 120]) (by simp [hxL])
  unfold partsT5
  simp only [hk, cond_true, h1, h2]
  have e : partsL ⟨op, rd, rs1, rs2, csr, imm, aq, rl⟩ = [xL rd, xL rs1, sgL imm] := by unfold partsL; rw [show sortF (⟨op, rd, rs1, rs2, csr, imm, aq, rl⟩ : Inst).op = 5 from ho] <;> rfl
  unfold partsV
  rw [e]
  rfl
theorem partsR6 (rd rs1 rs2 csr imm : Int) (aq rl : Bool) (h1 : isReg rd = true) (h2 : isReg rs1 = true) (h3 : isReg rs2 = true) (op : Int) (ho : sortF op = 6) : partsT6 (fun n => bs (xL n)) (fun n => bs (liL n)) (fun n => bs (sgL n)) (fun n => bs (plL n)) (fun n => bs (hxL n)) bitV rd rs1 rs2 csr imm aq rl = some (partsV ⟨op, rd, rs1, rs2, csr, imm, aq, rl⟩) := by
  have hk : okLen cox (bs (hxL (IntKind.u32.wrap csr))) = true := okLen_of (a := [48, 120]) (by simp [hxL])
  unfold partsT6
  simp only [hk, cond_true, h1, h2]
  have e : partsL ⟨op, rd, rs1, rs2, csr, imm, aq, rl⟩ = [xL rd, xL rs1, plL imm] := by unfold partsL; rw [show sortF (⟨op, rd, rs1, rs2, csr, imm, aq, rl⟩ : Inst).op = 6 from ho] <;> rfl
  unfold partsV
  rw [e]
  rfl
theorem partsR7 (rd rs1 rs2 csr imm : Int) (aq rl : Bool) (h1 : isReg rd = true) (h2 : isReg rs1 = true) (h3 : isReg rs2 = true) (op : Int) (ho : sortF op = 7) : partsT7 (fun n => bs (xL n)) (fun n => bs (liL n)) (fun n => bs (sgL n)) (fun n => bs (plL n)) (fun n => bs (hxL n)) bitV rd rs1 rs2 csr imm aq rl = some (partsV ⟨op, rd, rs1, rs2, csr, imm, aq, rl⟩) := by
  have hk : okLen cox (bs (hxL (IntKind.u32.wrap csr))) = true := okLen_of (a := [48, 120]) (by simp [hxL])
  unfold partsT7
  simp only [hk, cond_true, h1, h2, h3]
  have e : partsL ⟨op, rd, rs1, rs2, csr, imm, aq, rl⟩ = [xL rd, xL rs1, xL rs2] := by unfold partsL; rw [show sortF (⟨op, rd, rs1, rs2, csr, imm, aq, rl⟩ : Inst).op = 7 from ho] <;> rfl
  unfold partsV
  rw [e]
  rfl
theorem partsR8 (rd rs1 rs2 csr imm : Int) (aq rl : Bool) (h1 : isReg rd = true) (h2 : isReg rs1 = true) (h3 : isReg rs2 = true) (op : Int) (ho : sortF op = 8) : partsT8 (fun n => bs (xL n)) (fun n => bs (liL n)) (fun n => bs (sgL n)) (fun n => bs (plL n)) (fun n => bs (hxL n)) bitV rd rs1 rs2 csr imm aq rl = some (partsV ⟨op, rd, rs1, rs2, csr, imm, aq, rl⟩) := by
  have hk : okLen cox (bs (hxL (IntKind.u32.wrap csr))) = true := okLen_of (a := [48, 120]) (by simp [hxL])
  unfold partsT8
  simp only [hk, cond_true]
  have e : partsL ⟨op, rd, rs1, rs2, csr, imm, aq, rl⟩ = [plL (bitV imm 4 4), plL (bitV imm 0 4)] := by unfold partsL; rw [show sortF (⟨op, rd, rs1, rs2, csr, imm, aq, rl⟩ : Inst).op = 8 from ho] <;> rfl
  unfold partsV
  rw [e]
  rfl
theorem partsR9 (rd rs1 rs2 csr imm : Int) (aq rl : Bool) (h1 : isReg rd = true) (h2 : isReg rs1 = true) (h3 : isReg rs2 = true) (op : Int) (ho : sortF op = 9) : partsT9 (fun n => bs (xL n)) (fun n => bs (liL n)) (fun n => bs (sgL n)) (fun n => bs (plL n)) (fun n => bs (hxL n)) bitV rd rs1 rs2 csr imm aq rl = some (partsV ⟨op, rd, rs1, rs2, csr, imm, aq, rl⟩) := by
  have hk : okLen cox (bs (hxL (IntKind.u32.wrap csr))) = true := okLen_of (a := [48, 120]) (by simp [hxL])
  unfold partsT9
  simp only [hk, cond_true]
  have e : partsL ⟨op, rd, rs1, rs2, csr, imm, aq, rl⟩ = [] := by unfold partsL; rw [show sortF (⟨op, rd, rs1, rs2, csr, imm, aq, rl⟩ : Inst).op = 9 from ho] <;> rfl
  unfold partsV
  rw [e]
  rfl
theorem partsR10 (rd rs1 rs2 csr imm : Int) (aq rl : Bool) (h1 : isReg rd = true) (h2 : isReg rs1 = true) (h3 : isReg rs2 = true) (op : Int) (ho : sortF op = 10) : partsT10 (fun n => bs (xL n)) (fun n => bs (liL n)) (fun n => bs (sgL n)) (fun n => bs (plL n)) (fun n => bs (hxL n)) bitV rd rs1 rs2 csr imm aq rl = some (partsV ⟨op, rd, rs1, rs2, csr, imm, aq, rl⟩) := by
  have hk : okLen cox (bs (hxL (IntKind.u32.wrap csr))) = true := okLen_of (a := [48, 120]) (by simp [hxL])
  unfold partsT10
  simp only [hk, cond_true, h2, h3]
  have e : partsL ⟨op, rd, rs1, rs2, csr, imm, aq, rl⟩ = [xL rs1, xL rs2] := by unfold partsL; rw [show sortF (⟨op, rd, rs1, rs2, csr, imm, aq, rl⟩ : Inst).op = 10 from ho] <;> rfl
  unfold partsV
  rw [e]
  rfl
theorem partsR11 (rd rs1 rs2 csr imm : Int) (aq rl : Bool) (h1 : isReg rd = true) (h2 : isReg rs1 = true) (h3 : isReg rs2 = true) (op : Int) (ho : sortF op = 11) : partsT11 (fun n => bs (xL n)) (fun n => bs (liL n)) (fun n => bs (sgL n)) (fun n => bs (plL n)) (fun n => bs (hxL n)) bitV rd rs1 rs2 csr imm aq rl = some (partsV ⟨op, rd, rs1, rs2, csr, imm, aq, rl⟩) := by
  have hk : okLen cox (bs (hxL (IntKind.u32.wrap csr))) = true := okLen_of (a := [48, 120]) (by simp [hxL])
  unfold partsT11
  simp only [hk, cond_true, h1, h2]
  have e : partsL ⟨op, rd, rs1, rs2, csr, imm, aq, rl⟩ = [xL rd, 48 :: 120 :: hxL (IntKind.u32.wrap csr), xL rs1] := by unfold partsL; rw [show sortF (⟨op, rd, rs1, rs2, csr, imm, aq, rl⟩ : Inst).op = 11 from ho] <;> rfl
  unfold partsV
  rw [e]
  rfl
theorem partsR12 (rd rs1 rs2 csr imm : Int) (aq rl : Bool) (h1 : isReg rd = true) (h2 : isReg rs1 = true) (h3 : isReg rs2 = true) (op : Int) (ho : sortF op = 12) : partsT12 (fun n => bs (xL n)) (fun n => bs (liL n)) (fun n => bs (sgL n)) (fun n => bs (plL n)) (fun n => bs (hxL n)) bitV rd rs1 rs2 csr imm aq rl = some (partsV ⟨op, rd, rs1, rs2, csr, imm, aq, rl⟩) := by
  have hk : okLen cox (bs (hxL (IntKind.u32.wrap csr))) = true := okLen_of (a := [48, 120]) (by simp [hxL])
  unfold partsT12
  simp only [hk, cond_true, h1]
  have e : partsL ⟨op, rd, rs1, rs2, csr, imm, aq, rl⟩ = [xL rd, 48 :: 120 :: hxL (IntKind.u32.wrap csr), plL imm] := by unfold partsL; rw [show sortF (⟨op, rd, rs1, rs2, csr, imm, aq, rl⟩ : Inst).op = 12 from ho] <;> rfl
  unfold partsV
  rw [e]
  rfl
theorem partsR13 (rd rs1 rs2 csr imm : Int) (aq rl : Bool) (h1 : isReg rd = true) (h2 : isReg rs1 = true) (h3 : isReg rs2 = true) (op : Int) (ho : sortF op = 13) : partsT13 (fun n => bs (xL n)) (fun n => bs (liL n)) (fun n => bs (sgL n)) (fun n => bs (plL n)) (fun n => bs (hxL n)) bitV rd rs1 rs2 csr imm aq rl = some (partsV ⟨op, rd, rs1, rs2, csr, imm, aq, rl⟩) := by
  have hk : okLen cox (bs (hxL (IntKind.u32.wrap csr))) = true := okLen_of (a := [48, 120]) (by simp [hxL])
  unfold partsT13
  simp only [hk, cond_true, h1, h2]
  have e : partsL ⟨op, rd, rs1, rs2, csr, imm, aq, rl⟩ = [xL rd, liL rs1] := by unfold partsL; rw [show sortF (⟨op, rd, rs1, rs2, csr, imm, aq, rl⟩ : Inst).op = 13 from ho] <;> rfl
  unfold partsV
  rw [e]
  rfl
theorem partsR14 (rd rs1 rs2 csr imm : Int) (aq rl : Bool) (h1 : isReg rd = true) (h2 : isReg rs1 = true) (h3 : isReg rs2 = true) (op : Int) (ho : sortF op = 14) : partsT14 (fun n => bs (xL n)) (fun n => bs (liL n)) (fun n => bs (sgL n)) (fun n => bs (plL n)) (fun n => bs (hxL n)) bitV rd rs1 rs2 csr imm aq rl = some (partsV ⟨op, rd, rs1, rs2, csr, imm, aq, rl⟩) := by
  have hk : okLen cox (bs (hxL (IntKind.u32.wrap csr))) = true := okLen_of (a := [48, 120]) (by simp [hxL])
  unfold partsT14
  simp only [hk, cond_true, h1, h3, h2]
  have e : partsL ⟨op, rd, rs1, rs2, csr, imm, aq, rl⟩ = [xL rd, xL rs2, liL rs1] := by unfold partsL; rw [show sortF (⟨op, rd, rs1, rs2, csr, imm, aq, rl⟩ : Inst).op = 14 from ho] <;> rfl
  unfold partsV
  rw [e]
  rfl
theorem partsAll (rd rs1 rs2 csr imm : Int) (aq rl : Bool) (h1 : isReg rd = true) (h2 : isReg rs1 = true) (h3 : isReg rs2 = true) : ∀ k : Nat, k < 69 → callK (ctx (partsΦ (fun n => bs (xL n)) (fun n => bs (liL n)) (fun n => bs (sgL n)) (fun n => bs (plL n)) (fun n => bs (hxL n)) bitV)) 20 0 27 [instV ⟨(k : Int) + 1, rd, rs1, rs2, csr, imm, aq, rl⟩] [] (fun v _ => some v) = some (partsV ⟨(k : Int) + 1, rd, rs1, rs2, csr, imm, aq, rl⟩)
  | 0, _ => (parts0 (fun n => bs (xL n)) (fun n => bs (liL n)) (fun n => bs (sgL n)) (fun n => bs (plL n)) (fun n => bs (hxL n)) bitV rd rs1 rs2 csr imm aq rl).trans (partsR0 rd rs1 rs2 csr imm aq rl h1 h2 h3 1 rfl)
  | 1, _ => (parts1 (fun n => bs (xL n)) (fun n => bs (liL n)) (fun n => bs (sgL n)) (fun n => bs (plL n)) (fun n => bs (hxL n)) bitV rd rs1 rs2 csr imm aq rl).trans (partsR0 rd rs1 rs2 csr imm aq rl h1 h2 h3 2 rfl)
  | 2, _ => (parts2 (fun n => bs (xL n)) (fun n => bs (liL n)) (fun n => bs (sgL n)) (fun n => bs (plL n)) (fun n => bs (hxL n)) bitV rd rs1 rs2 csr imm aq rl).trans (partsR1 rd rs1 rs2 csr imm aq rl h1 h2 h3 3 rfl)
  | 3, _ => (parts3 (fun n => bs (xL n)) (fun n => bs (liL n)) (fun n => bs (sgL n)) (fun n => bs (plL n)) (fun n => bs (hxL n)) bitV rd rs1 rs2 csr imm aq rl).trans (partsR2 rd rs1 rs2 csr imm aq rl h1 h2 h3 4 rfl)
  | 4, _ => (parts4 (fun n => bs (xL n)) (fun n => bs (liL n)) (fun n => bs (sgL n)) (fun n => bs (plL n)) (fun n => bs (hxL n)) bitV rd rs1 rs2 csr imm aq rl).trans (partsR3 rd rs1 rs2 csr imm aq rl h1 h2 h3 5 rfl)
  | 5, _ => (parts5 (fun n => bs (xL n)) (fun n => bs (liL n)) (fun n => bs (sgL n)) (fun n => bs (plL n)) (fun n => bs (hxL n)) bitV rd rs1 rs2 csr imm aq rl).trans (partsR3 rd rs1 rs2 csr imm aq rl h1 h2 h3 6 rfl)
  | 6, _ => (parts6 (fun n => bs (xL n)) (fun n => bs (liL n)) (fun n => bs (sgL n)) (fun n => bs (plL n)) (fun n => bs (hxL n)) bitV rd rs1 rs2 csr imm aq rl).trans (partsR3 rd rs1 rs2 csr imm aq rl h1 h2 h3 7 rfl)
  | 7, _ => (parts7 (fun n => bs (xL n)) (fun n => bs (liL n)) (fun n => bs (sgL n)) (fun n => bs (plL n)) (fun n => bs (hxL n)) bitV rd rs1 rs2 csr imm aq rl).trans (partsR3 rd rs1 rs2 csr imm aq rl h1 h2 h3 8 rfl)
  | 8, _ => (parts8 (fun n => bs (xL n)) (fun n => bs (liL n)) (fun n => bs (sgL n)) (fun n => bs (plL n)) (fun n => bs (hxL n)) bitV rd rs1 rs2 csr imm aq rl).trans (partsR3 rd rs1 rs2 csr imm aq rl h1 h2 h3 9 rfl)
  | 9, _ => (parts9 (fun n => bs (xL n)) (fun n => bs (liL n)) (fun n => bs (sgL n)) (fun n => bs (plL n)) (fun n => bs (hxL n)) bitV rd rs1 rs2 csr imm aq rl).trans (partsR3 rd rs1 rs2 csr imm aq rl h1 h2 h3 10 rfl)
  | 10, _ => (parts10 (fun n => bs (xL n)) (fun n => bs (liL n)) (fun n => bs (sgL n)) (fun n => bs (plL n)) (fun n => bs (hxL n)) bitV rd rs1 rs2 csr imm aq rl).trans (partsR2 rd rs1 rs2 csr imm aq rl h1 h2 h3 11 rfl)
  | 11, _ => (parts11 (fun n => bs (xL n)) (fun n => bs (liL n)) (fun n => bs (sgL n)) (fun n => bs (plL n)) (fun n => bs (hxL n)) bitV rd rs1 rs2 csr imm aq rl).trans (partsR2 rd rs1 rs2 csr imm aq rl h1 h2 h3 12 rfl)
  | 12, _ => (parts12 (fun n => bs (xL n)) (fun n => bs (liL n)) (fun n => bs (sgL n)) (fun n => bs (plL n)) (fun n => bs (hxL n)) bitV rd rs1 rs2 csr imm aq rl).trans (partsR2 rd rs1 rs2 csr imm aq rl h1 h2 h3 13 rfl)
  | 13, _ => (parts13 (fun n => bs (xL n)) (fun n => bs (liL n)) (fun n => bs (sgL n)) (fun n => bs (plL n)) (fun n => bs (hxL n)) bitV rd rs1 rs2 csr imm aq rl).trans (partsR2 rd rs1 rs2 csr imm aq rl h1 h2 h3 14 rfl)
  | 14, _ => (parts14 (fun n => bs (xL n)) (fun n => bs (liL n)) (fun n => bs (sgL n)) (fun n => bs (plL n)) (fun n => bs (hxL n)) bitV rd rs1 rs2 csr imm aq rl).trans (partsR2 rd rs1 rs2 csr imm aq rl h1 h2 h3 15 rfl)
  | 15, _ => (parts15 (fun n => bs (xL n)) (fun n => bs (liL n)) (fun n => bs (sgL n)) (fun n => bs (plL n)) (fun n => bs (hxL n)) bitV rd rs1 rs2 csr imm aq rl).trans (partsR4 rd rs1 rs2 csr imm aq rl h1 h2 h3 16 rfl)
  | 16, _ => (parts16 (fun n => bs (xL n)) (fun n => bs (liL n)) (fun n => bs (sgL n)) (fun n => bs (plL n)) (fun n => bs (hxL n)) bitV rd rs1 rs2 csr imm aq rl).trans (partsR4 rd rs1 rs2 csr imm aq rl h1 h2 h3 17 rfl)
  | 17, _ => (parts17 (fun n => bs (xL n)) (fun n => bs (liL n)) (fun n => bs (sgL n)) (fun n => bs (plL n)) (fun n => bs (hxL n)) bitV rd rs1 rs2 csr imm aq rl).trans (partsR4 rd rs1 rs2 csr imm aq rl h1 h2 h3 18 rfl)
  | 18, _ => (parts18 (fun n => bs (xL n)) (fun n => bs (liL n)) (fun n => bs (sgL n)) (fun n => bs (plL n)) (fun n => bs (hxL n)) bitV rd rs1 rs2 csr imm aq rl).trans (partsR5 rd rs1 rs2 csr imm aq rl h1 h2 h3 19 rfl)
  | 19, _ => (parts19 (fun n => bs (xL n)) (fun n => bs (liL n)) (fun n => bs (sgL n)) (fun n => bs (plL n)) (fun n => bs (hxL n)) bitV rd rs1 rs2 csr imm aq rl).trans (partsR5 rd rs1 rs2 csr imm aq rl h1 h2 h3 20 rfl)
  | 20, _ => (parts20 (fun n => bs (xL n)) (fun n => bs (liL n)) (fun n => bs (sgL n)) (fun n => bs (plL n)) (fun n => bs (hxL n)) bitV rd rs1 rs2 csr imm aq rl).trans (partsR5 rd rs1 rs2 csr imm aq rl h1 h2 h3 21 rfl)
  | 21, _ => (parts21 (fun n => bs (xL n)) (fun n => bs (liL n)) (fun n => bs (sgL n)) (fun n => bs (plL n)) (fun n => bs (hxL n)) bitV rd rs1 rs2 csr imm aq rl).trans (partsR5 rd rs1 rs2 csr imm aq rl h1 h2 h3 22 rfl)
  | 22, _ => (parts22 (fun n => bs (xL n)) (fun n => bs (liL n)) (fun n => bs (sgL n)) (fun n => bs (plL n)) (fun n => bs (hxL n)) bitV rd rs1 rs2 csr imm aq rl).trans (partsR5 rd rs1 rs2 csr imm aq rl h1 h2 h3 23 rfl)
  | 23, _ => (parts23 (fun n => bs (xL n)) (fun n => bs (liL n)) (fun n => bs (sgL n)) (fun n => bs (plL n)) (fun n => bs (hxL n)) bitV rd rs1 rs2 csr imm aq rl).trans (partsR5 rd rs1 rs2 csr imm aq rl h1 h2 h3 24 rfl)
  | 24, _ => (parts24 (fun n => bs (xL n)) (fun n => bs (liL n)) (fun n => bs (sgL n)) (fun n => bs (plL n)) (fun n => bs (hxL n)) bitV rd rs1 rs2 csr imm aq rl).trans (partsR6 rd rs1 rs2 csr imm aq rl h1 h2 h3 25 rfl)
  | 25, _ => (parts25 (fun n => bs (xL n)) (fun n => bs (liL n)) (fun n => bs (sgL n)) (fun n => bs (plL n)) (fun n => bs (hxL n)) bitV rd rs1 rs2 csr imm aq rl).trans (partsR6 rd rs1 rs2 csr imm aq rl h1 h2 h3 26 rfl)
  | 26, _ => (parts26 (fun n => bs (xL n)) (fun n => bs (liL n)) (fun n => bs (sgL n)) (fun n => bs (plL n)) (fun n => bs (hxL n)) bitV rd rs1 rs2 csr imm aq rl).trans (partsR6 rd rs1 rs2 csr imm aq rl h1 h2 h3 27 rfl)
  | 27, _ => (parts27 (fun n => bs (xL n)) (fun n => bs (liL n)) (fun n => bs (sgL n)) (fun n => bs (plL n)) (fun n => bs (hxL n)) bitV rd rs1 rs2 csr imm aq rl).trans (partsR7 rd rs1 rs2 csr imm aq rl h1 h2 h3 28 rfl)
  | 28, _ => (parts28 (fun n => bs (xL n)) (fun n => bs (liL n)) (fun n => bs (sgL n)) (fun n => bs (plL n)) (fun n => bs (hxL n)) bitV rd rs1 rs2 csr imm aq rl).trans (partsR7 rd rs1 rs2 csr imm aq rl h1 h2 h3 29 rfl)
  | 29, _ => (parts29 (fun n => bs (xL n)) (fun n => bs (liL n)) (fun n => bs (sgL n)) (fun n => bs (plL n)) (fun n => bs (hxL n)) bitV rd rs1 rs2 csr imm aq rl).trans (partsR7 rd rs1 rs2 csr imm aq rl h1 h2 h3 30 rfl)
  | 30, _ => (parts30 (fun n => bs (xL n)) (fun n => bs (liL n)) (fun n => bs (sgL n)) (fun n => bs (plL n)) (fun n => bs (hxL n)) bitV rd rs1 rs2 csr imm aq rl).trans (partsR7 rd rs1 rs2 csr imm aq rl h1 h2 h3 31 rfl)
  | 31, _ => (parts31 (fun n => bs (xL n)) (fun n => bs (liL n)) (fun n => bs (sgL n)) (fun n => bs (plL n)) (fun n => bs (hxL n)) bitV rd rs1 rs2 csr imm aq rl).trans (partsR7 rd rs1 rs2 csr imm aq rl h1 h2 h3 32 rfl)
  | 32, _ => (parts32 (fun n => bs (xL n)) (fun n => bs (liL n)) (fun n => bs (sgL n)) (fun n => bs (plL n)) (fun n => bs (hxL n)) bitV rd rs1 rs2 csr imm aq rl).trans (partsR7 rd rs1 rs2 csr imm aq rl h1 h2 h3 33 rfl)
  | 33, _ => (parts33 (fun n => bs (xL n)) (fun n => bs (liL n)) (fun n => bs (sgL n)) (fun n => bs (plL n)) (fun n => bs (hxL n)) bitV rd rs1 rs2 csr imm aq rl).trans (partsR7 rd rs1 rs2 csr imm aq rl h1 h2 h3 34 rfl)
  | 34, _ => (parts34 (fun n => bs (xL n)) (fun n => bs (liL n)) (fun n => bs (sgL n)) (fun n => bs (plL n)) (fun n => bs (hxL n)) bitV rd rs1 rs2 csr imm aq rl).trans (partsR7 rd rs1 rs2 csr imm aq rl h1 h2 h3 35 rfl)
  | 35, _ => (parts35 (fun n => bs (xL n)) (fun n => bs (liL n)) (fun n => bs (sgL n)) (fun n => bs (plL n)) (fun n => bs (hxL n)) bitV rd rs1 rs2 csr imm aq rl).trans (partsR7 rd rs1 rs2 csr imm aq rl h1 h2 h3 36 rfl)
  | 36, _ => (parts36 (fun n => bs (xL n)) (fun n => bs (liL n)) (fun n => bs (sgL n)) (fun n => bs (plL n)) (fun n => bs (hxL n)) bitV rd rs1 rs2 csr imm aq rl).trans (partsR7 rd rs1 rs2 csr imm aq rl h1 h2 h3 37 rfl)
  | 37, _ => (parts37 (fun n => bs (xL n)) (fun n => bs (liL n)) (fun n => bs (sgL n)) (fun n => bs (plL n)) (fun n => bs (hxL n)) bitV rd rs1 rs2 csr imm aq rl).trans (partsR8 rd rs1 rs2 csr imm aq rl h1 h2 h3 38 rfl)
  | 38, _ => (parts38 (fun n => bs (xL n)) (fun n => bs (liL n)) (fun n => bs (sgL n)) (fun n => bs (plL n)) (fun n => bs (hxL n)) bitV rd rs1 rs2 csr imm aq rl).trans (partsR9 rd rs1 rs2 csr imm aq rl h1 h2 h3 39 rfl)
  | 39, _ => (parts39 (fun n => bs (xL n)) (fun n => bs (liL n)) (fun n => bs (sgL n)) (fun n => bs (plL n)) (fun n => bs (hxL n)) bitV rd rs1 rs2 csr imm aq rl).trans (partsR9 rd rs1 rs2 csr imm aq rl h1 h2 h3 40 rfl)
  | 40, _ => (parts40 (fun n => bs (xL n)) (fun n => bs (liL n)) (fun n => bs (sgL n)) (fun n => bs (plL n)) (fun n => bs (hxL n)) bitV rd rs1 rs2 csr imm aq rl).trans (partsR9 rd rs1 rs2 csr imm aq rl h1 h2 h3 41 rfl)
  | 41, _ => (parts41 (fun n => bs (xL n)) (fun n => bs (liL n)) (fun n => bs (sgL n)) (fun n => bs (plL n)) (fun n => bs (hxL n)) bitV rd rs1 rs2 csr imm aq rl).trans (partsR9 rd rs1 rs2 csr imm aq rl h1 h2 h3 42 rfl)
  | 42, _ => (parts42 (fun n => bs (xL n)) (fun n => bs (liL n)) (fun n => bs (sgL n)) (fun n => bs (plL n)) (fun n => bs (hxL n)) bitV rd rs1 rs2 csr imm aq rl).trans (partsR9 rd rs1 rs2 csr imm aq rl h1 h2 h3 43 rfl)
  | 43, _ => (parts43 (fun n => bs (xL n)) (fun n => bs (liL n)) (fun n => bs (sgL n)) (fun n => bs (plL n)) (fun n => bs (hxL n)) bitV rd rs1 rs2 csr imm aq rl).trans (partsR10 rd rs1 rs2 csr imm aq rl h1 h2 h3 44 rfl)
  | 44, _ => (parts44 (fun n => bs (xL n)) (fun n => bs (liL n)) (fun n => bs (sgL n)) (fun n => bs (plL n)) (fun n => bs (hxL n)) bitV rd rs1 rs2 csr imm aq rl).trans (partsR11 rd rs1 rs2 csr imm aq rl h1 h2 h3 45 rfl)
  | 45, _ => (parts45 (fun n => bs (xL n)) (fun n => bs (liL n)) (fun n => bs (sgL n)) (fun n => bs (plL n)) (fun n => bs (hxL n)) bitV rd rs1 rs2 csr imm aq rl).trans (partsR11 rd rs1 rs2 csr imm aq rl h1 h2 h3 46 rfl)
  | 46, _ => (parts46 (fun n => bs (xL n)) (fun n => bs (liL n)) (fun n => bs (sgL n)) (fun n => bs (plL n)) (fun n => bs (hxL n)) bitV rd rs1 rs2 csr imm aq rl).trans (partsR11 rd rs1 rs2 csr imm aq rl h1 h2 h3 47 rfl)
  | 47, _ => (parts47 (fun n => bs (xL n)) (fun n => bs (liL n)) (fun n => bs (sgL n)) (fun n => bs (plL n)) (fun n => bs (hxL n)) bitV rd rs1 rs2 csr imm aq rl).trans (partsR12 rd rs1 rs2 csr imm aq rl h1 h2 h3 48 rfl)
  | 48, _ => (parts48 (fun n => bs (xL n)) (fun n => bs (liL n)) (fun n => bs (sgL n)) (fun n => bs (plL n)) (fun n => bs (hxL n)) bitV rd rs1 rs2 csr imm aq rl).trans (partsR12 rd rs1 rs2 csr imm aq rl h1 h2 h3 49 rfl)
  | 49, _ => (parts49 (fun n => bs (xL n)) (fun n => bs (liL n)) (fun n => bs (sgL n)) (fun n => bs (plL n)) (fun n => bs (hxL n)) bitV rd rs1 rs2 csr imm aq rl).trans (partsR12 rd rs1 rs2 csr imm aq rl h1 h2 h3 50 rfl)
  | 50, _ => (parts50 (fun n => bs (xL n)) (fun n => bs (liL n)) (fun n => bs (sgL n)) (fun n => bs (plL n)) (fun n => bs (hxL n)) bitV rd rs1 rs2 csr imm aq rl).trans (partsR7 rd rs1 rs2 csr imm aq rl h1 h2 h3 51 rfl)
  | 51, _ => (parts51 (fun n => bs (xL n)) (fun n => bs (liL n)) (fun n => bs (sgL n)) (fun n => bs (plL n)) (fun n => bs (hxL n)) bitV rd rs1 rs2 csr imm aq rl).trans (partsR7 rd rs1 rs2 csr imm aq rl h1 h2 h3 52 rfl)
  | 52, _ => (parts52 (fun n => bs (xL n)) (fun n => bs (liL n)) (fun n => bs (sgL n)) (fun n => bs (plL n)) (fun n => bs (hxL n)) bitV rd rs1 rs2 csr imm aq rl).trans (partsR7 rd rs1 rs2 csr imm aq rl h1 h2 h3 53 rfl)
  | 53, _ => (parts53 (fun n => bs (xL n)) (fun n => bs (liL n)) (fun n => bs (sgL n)) (fun n => bs (plL n)) (fun n => bs (hxL n)) bitV rd rs1 rs2 csr imm aq rl).trans (partsR7 rd rs1 rs2 csr imm aq rl h1 h2 h3 54 rfl)
  | 54, _ => (parts54 (fun n => bs (xL n)) (fun n => bs (liL n)) (fun n => bs (sgL n)) (fun n => bs (plL n)) (fun n => bs (hxL n)) bitV rd rs1 rs2 csr imm aq rl).trans (partsR7 rd rs1 rs2 csr imm aq rl h1 h2 h3 55 rfl)
  | 55, _ => (parts55 (fun n => bs (xL n)) (fun n => bs (liL n)) (fun n => bs (sgL n)) (fun n => bs (plL n)) (fun n => bs (hxL n)) bitV rd rs1 rs2 csr imm aq rl).trans (partsR7 rd rs1 rs2 csr imm aq rl h1 h2 h3 56 rfl)
  | 56, _ => (parts56 (fun n => bs (xL n)) (fun n => bs (liL n)) (fun n => bs (sgL n)) (fun n => bs (plL n)) (fun n => bs (hxL n)) bitV rd rs1 rs2 csr imm aq rl).trans (partsR7 rd rs1 rs2 csr imm aq rl h1 h2 h3 57 rfl)
  | 57, _ => (parts57 (fun n => bs (xL n)) (fun n => bs (liL n)) (fun n => bs (sgL n)) (fun n => bs (plL n)) (fun n => bs (hxL n)) bitV rd rs1 rs2 csr imm aq rl).trans (partsR7 rd rs1 rs2 csr imm aq rl h1 h2 h3 58 rfl)
  | 58, _ => (parts58 (fun n => bs (xL n)) (fun n => bs (liL n)) (fun n => bs (sgL n)) (fun n => bs (plL n)) (fun n => bs (hxL n)) bitV rd rs1 rs2 csr imm aq rl).trans (partsR13 rd rs1 rs2 csr imm aq rl h1 h2 h3 59 rfl)
  | 59, _ => (parts59 (fun n => bs (xL n)) (fun n => bs (liL n)) (fun n => bs (sgL n)) (fun n => bs (plL n)) (fun n => bs (hxL n)) bitV rd rs1 rs2 csr imm aq rl).trans (partsR14 rd rs1 rs2 csr imm aq rl h1 h2 h3 60 rfl)
  | 60, _ => (parts60 (fun n => bs (xL n)) (fun n => bs (liL n)) (fun n => bs (sgL n)) (fun n => bs (plL n)) (fun n => bs (hxL n)) bitV rd rs1 rs2 csr imm aq rl).trans (partsR14 rd rs1 rs2 csr imm aq rl h1 h2 h3 61 rfl)
  | 61, _ => (parts61 (fun n => bs (xL n)) (fun n => bs (liL n)) (fun n => bs (sgL n)) (fun n => bs (plL n)) (fun n => bs (hxL n)) bitV rd rs1 rs2 csr imm aq rl).trans (partsR14 rd rs1 rs2 csr imm aq rl h1 h2 h3 62 rfl)
  | 62, _ => (parts62 (fun n => bs (xL n)) (fun n => bs (liL n)) (fun n => bs (sgL n)) (fun n => bs (plL n)) (fun n => bs (hxL n)) bitV rd rs1 rs2 csr imm aq rl).trans (partsR14 rd rs1 rs2 csr imm aq rl h1 h2 h3 63 rfl)
  | 63, _ => (parts63 (fun n => bs (xL n)) (fun n => bs (liL n)) (fun n => bs (sgL n)) (fun n => bs (plL n)) (fun n => bs (hxL n)) bitV rd rs1 rs2 csr imm aq rl).trans (partsR14 rd rs1 rs2 csr imm aq rl h1 h2 h3 64 rfl)
  | 64, _ => (parts64 (fun n => bs (xL n)) (fun n => bs (liL n)) (fun n => bs (sgL n)) (fun n => bs (plL n)) (fun n => bs (hxL n)) bitV rd rs1 rs2 csr imm aq rl).trans (partsR14 rd rs1 rs2 csr imm aq rl h1 h2 h3 65 rfl)
  | 65, _ => (parts65 (fun n => bs (xL n)) (fun n => bs (liL n)) (fun n => bs (sgL n)) (fun n => bs (plL n)) (fun n => bs (hxL n)) bitV rd rs1 rs2 csr imm aq rl).trans (partsR14 rd rs1 rs2 csr imm aq rl h1 h2 h3 66 rfl)
  | 66, _ => (parts66 (fun n => bs (xL n)) (fun n => bs (liL n)) (fun n => bs (sgL n)) (fun n => bs (plL n)) (fun n => bs (hxL n)) bitV rd rs1 rs2 csr imm aq rl).trans (partsR14 rd rs1 rs2 csr imm aq rl h1 h2 h3 67 rfl)
  | 67, _ => (parts67 (fun n => bs (xL n)) (fun n => bs (liL n)) (fun n => bs (sgL n)) (fun n => bs (plL n)) (fun n => bs (hxL n)) bitV rd rs1 rs2 csr imm aq rl).trans (partsR14 rd rs1 rs2 csr imm aq rl h1 h2 h3 68 rfl)
  | 68, _ => (parts68 (fun n => bs (xL n)) (fun n => bs (liL n)) (fun n => bs (sgL n)) (fun n => bs (plL n)) (fun n => bs (hxL n)) bitV rd rs1 rs2 csr imm aq rl).trans (partsR14 rd rs1 rs2 csr imm aq rl h1 h2 h3 69 rfl)
  | n + 69, h => absurd h (by omega)
theorem partsOK {i : Inst} (h : Fits i) : PureOK Tryz.prog 27 [instV i] (partsV i) := by
  obtain ⟨op, rd, rs1, rs2, csr, imm, aq, rl⟩ := i
  obtain ⟨ho, h1, h2, h3⟩ := h
  refine ops (p := fun op => PureOK Tryz.prog 27 [instV ⟨op, rd, rs1, rs2, csr, imm, aq, rl⟩] (partsV ⟨op, rd, rs1, rs2, csr, imm, aq, rl⟩)) (fun k hk => ?_) ho
  refine PureOK.of_run partsΦ_ok (partsAll rd rs1 rs2 csr imm aq rl h1 h2 h3 k hk) ?_
  unfold partsV
  cases (partsL ⟨(k : Int) + 1, rd, rs1, rs2, csr, imm, aq, rl⟩).isEmpty with
  | true => exact Gh.plain rfl
  | false => exact Gh.gs (gh_plains (sv_plain _))
end Go.Proofs.YtgkicojmgokinaaGreatDoor.Ab
