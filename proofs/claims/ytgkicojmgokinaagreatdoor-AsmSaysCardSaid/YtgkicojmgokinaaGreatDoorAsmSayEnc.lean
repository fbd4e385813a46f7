/- Trimmed: AsmSayEnc -/
import Derived.Test.YtgkicojmgokinaaGreatDoorAsmSayOf
import Derived.Test.YtgkicojmgokinaaGreatDoorAsmSame
namespace Go.Proofs.YtgkicojmgokinaaGreatDoor.Ab
open Go Go.RowKit
set_option linter.unusedVariables false
set_option linter.unusedSimpArgs false
set_option maxRecDepth 100000
noncomputable def reΦ (Ly : Int → Int → Int × Bool) (Wd : RRow → Inst → Int) : Oracle := fun lo f args H => match f with
  | 29 => match args with
    | [.int .i64 op] => some [(isOp op, ofV (op - 1).toNat, H)]
    | _ => none
  | 30 => match args with
    | [.int .u8 c, .int .u32 x] => some [(isRF c, .tuple #[.int .u32 (Ly c x).1, .bool (Ly c x).2], H)]
    | _ => none
  | 32 => match args with
    | [.agg ⟨[.int .i64 op, .string nm, .int .u32 opc, .int .u32 f3, .int .u32 f7, .bool h3, .bool h7, .int .u8 fmt, .bool ud, .bool ua, .bool ub, .bool uc, .int .u32 whole, .bool pr]⟩, .agg ⟨[.int .i64 op2, .int .i64 rd, .int .i64 rs1, .int .i64 rs2, .int .i64 csr, .int .u32 imm, .bool aq, .bool rl]⟩] => some [(isRow ⟨op, nm, opc, f3, f7, h3, h7, fmt, ud, ua, ub, uc, whole, pr⟩, .int .u32 (Wd ⟨op, nm, opc, f3, f7, h3, h7, fmt, ud, ua, ub, uc, whole, pr⟩ ⟨op2, rd, rs1, rs2, csr, imm, aq, rl⟩), H)]
    | _ => none
  | _ => none
theorem reΦ_ok : CtxOK Tryz.prog (ctx (reΦ rlyV (rwV rlyV))) := ctxOK fun lo f args H l v H' h hm => by
  unfold reΦ at h
  split at h
  · split at h
    · cases h
      simp only [List.mem_cons, List.not_mem_nil, or_false, Prod.mk.injEq] at hm
      obtain ⟨hc, rfl, rfl⟩ := hm
      exact ⟨(ofOK hc.symm).call (gh_plains rfl) lo H', rfl⟩
    · cases h
  · split at h
    · cases h
      simp only [List.mem_cons, List.not_mem_nil, or_false, Prod.mk.injEq] at hm
      obtain ⟨hc, rfl, rfl⟩ := hm
      exact ⟨(rlyOK hc.symm).call (gh_plains rfl) lo H', rfl⟩
    · cases h
  · split at h
    · cases h
      simp only [List.mem_cons, List.not_mem_nil, or_false, Prod.mk.injEq] at hm
      obtain ⟨hc, rfl, rfl⟩ := hm
      exact ⟨(rwOK (r := ⟨_, _, _, _, _, _, _, _, _, _, _, _, _, _⟩) (i := ⟨_, _, _, _, _, _, _, _⟩) hc.symm).call (gh_plains rfl) lo H', rfl⟩
    · cases h
  · cases h
def reA (w : Int) (b : Int) : Option Value := some (.tuple ⟨[.int .u32 w, .int .i64 b]⟩)
def reG (n : Int) (t : Option Value) : Option Value := bif decide (n ≥ 0) then (bif decide (n ≤ 31) then t else reA 0 106) else reA 0 106
def reZ (f : Bool) (n : Int) (t : Option Value) : Option Value := bif f then t else bif n != 0 then reA 0 104 else t
def reP (p : Bool) (aq rl : Bool) (t : Option Value) : Option Value := bif p then t else bif aq then reA 0 104 else bif rl then reA 0 104 else t
def reS (Wd : RRow → Inst → Int) (r : RRow) (i : Inst) (holds : Bool) : Option Value :=
  reG i.rd <| reG i.rs1 <| reG i.rs2 <| bif decide (i.csr < 0) then reA 0 106 else bif decide (i.csr > 4095) then reA 0 106 else bif (r.fmt != 0 && !holds) then reA 0 106 else
    reZ r.ud i.rd <| reZ r.ua i.rs1 <| reZ r.ub i.rs2 <| reZ r.uc i.csr <| reZ (r.fmt != 0) i.imm <| reP r.pr i.aq i.rl <| reA (Wd r i) 0
def reT (Ly : Int → Int → Int × Bool) (Wd : RRow → Inst → Int) (r : RRow) (i : Inst) : Option Value := bif (Ly r.fmt i.imm).2 then reS Wd r i true else reS Wd r i false
noncomputable def reL (Ly : Int → Int → Int × Bool) (Wd : RRow → Inst → Int) (i : Inst) : Option Value := callK (ctx (reΦ Ly Wd)) 20 0 10 [instV i] [] (fun v _ => some v)
theorem re0 (Ly : Int → Int → Int × Bool) (Wd : RRow → Inst → Int) (rd rs1 rs2 csr imm : Int) (aq rl : Bool) : reL Ly Wd ⟨1, rd, rs1, rs2, csr, imm, aq, rl⟩ = reT Ly Wd (rrowAt 0) ⟨1, rd, rs1, rs2, csr, imm, aq, rl⟩ := by kernel_rfl
theorem re1 (Ly : Int → Int → Int × Bool) (Wd : RRow → Inst → Int) (rd rs1 rs2 csr imm : Int) (aq rl : Bool) : reL Ly Wd ⟨2, rd, rs1, rs2, csr, imm, aq, rl⟩ = reT Ly Wd (rrowAt 1) ⟨2, rd, rs1, rs2, csr, imm, aq, rl⟩ := by kernel_rfl
theorem re2 (Ly : Int → Int → Int × Bool) (Wd : RRow → Inst → Int) (rd rs1 rs2 csr imm : Int) (aq rl : Bool) : reL Ly Wd ⟨3, rd, rs1, rs2, csr, imm, aq, rl⟩ = reT Ly Wd (rrowAt 2) ⟨3, rd, rs1, rs2, csr, imm, aq, rl⟩ := by kernel_rfl
theorem re3 (Ly : Int → Int → Int × Bool) (Wd : RRow → Inst → Int) (rd rs1 rs2 csr imm : Int) (aq rl : Bool) : reL Ly Wd ⟨4, rd, rs1, rs2, csr, imm, aq, rl⟩ = reT Ly Wd (rrowAt 3) ⟨4, rd, rs1, rs2, csr, imm, aq, rl⟩ := by kernel_rfl
theorem re4 (Ly : Int → Int → Int × Bool) (Wd : RRow → Inst → Int) (rd rs1 rs2 csr imm : Int) (aq rl : Bool) : reL Ly Wd ⟨5, rd, rs1, rs2, csr, imm, aq, rl⟩ = reT Ly Wd (rrowAt 4) ⟨5, rd, rs1, rs2, csr, imm, aq, rl⟩ := by kernel_rfl
theorem re5 (Ly : Int → Int → Int × Bool) (Wd : RRow → Inst → Int) (rd rs1 rs2 csr imm : Int) (aq rl : Bool) : reL Ly Wd ⟨6, rd, rs1, rs2, csr, imm, aq, rl⟩ = reT Ly Wd (rrowAt 5) ⟨6, rd, rs1, rs2, csr, imm, aq, rl⟩ := by kernel_rfl
theorem re6 (Ly : Int → Int → Int × Bool) (Wd : RRow → Inst → Int) (rd rs1 rs2 csr imm : Int) (aq rl : Bool) : reL Ly Wd ⟨7, rd, rs1, rs2, csr, imm, aq, rl⟩ = reT Ly Wd (rrowAt 6) ⟨7, rd, rs1, rs2, csr, imm, aq, rl⟩ := by kernel_rfl
theorem re7 (Ly : Int → Int → Int × Bool) (Wd : RRow → Inst → Int) (rd rs1 rs2 csr imm : Int) (aq rl : Bool) : reL Ly Wd ⟨8, rd, rs1, rs2, csr, imm, aq, rl⟩ = reT Ly Wd (rrowAt 7) ⟨8, rd, rs1, rs2, csr, imm, aq, rl⟩ := by kernel_rfl
theorem re8 (Ly : Int → Int → Int × Bool) (Wd : RRow → Inst → Int) (rd rs1 rs2 csr imm : Int) (aq rl : Bool) : reL Ly Wd ⟨9, rd, rs1, rs2, csr, imm, aq, rl⟩ = reT Ly Wd (rrowAt 8) ⟨9, rd, rs1, rs2, csr, imm, aq, rl⟩ := by kernel_rfl
theorem re9 (Ly : Int → Int → Int × Bool) (Wd : RRow → Inst → Int) (rd rs1 rs2 csr imm : Int) (aq rl : Bool) : reL Ly Wd ⟨10, rd, rs1, rs2, csr, imm, aq, rl⟩ = reT Ly Wd (rrowAt 9) ⟨10, rd, rs1, rs2, csr, imm, aq, rl⟩ := by kernel_rfl
theorem re10 (Ly : Int → Int → Int × Bool) (Wd : RRow → Inst → Int) (rd rs1 rs2 csr imm : Int) (aq rl : Bool) : reL Ly Wd ⟨11, rd, rs1, rs2, csr, imm, aq, rl⟩ = reT Ly Wd (rrowAt 10) ⟨11, rd, rs1, rs2, csr, imm, aq, rl⟩ := by kernel_rfl
theorem re11 (Ly : Int → Int → Int × Bool) (Wd : RRow → Inst → Int) (rd rs1 rs2 csr imm : Int) (aq rl : Bool) : reL Ly Wd ⟨12, rd, rs1, rs2, csr, imm, aq, rl⟩ = reT Ly Wd (rrowAt 11) ⟨12, rd, rs1, rs2, csr, imm, aq, rl⟩ := by kernel_rfl
theorem re12 (Ly : Int → Int → Int × Bool) (Wd : RRow → Inst → Int) (rd rs1 rs2 csr imm : Int) (aq rl : Bool) : reL Ly Wd ⟨13, rd, rs1, rs2, csr, imm, aq, rl⟩ = reT Ly Wd (rrowAt 12) ⟨13, rd, rs1, rs2, csr, imm, aq, rl⟩ := by kernel_rfl
theorem re13 (Ly : Int → Int → Int × Bool) (Wd : RRow → Inst → Int) (rd rs1 rs2 csr imm : Int) (aq rl : Bool) : reL Ly Wd ⟨14, rd, rs1, rs2, csr, imm, aq, rl⟩ = reT Ly Wd (rrowAt 13) ⟨14, rd, rs1, rs2, csr, imm, aq, rl⟩ := by kernel_rfl
theorem re14 (Ly : Int → Int → Int × Bool) (Wd : RRow → Inst → Int) (rd rs1 rs2 csr imm : Int) (aq rl : Bool) : reL Ly Wd ⟨15, rd, rs1, rs2, csr, imm, aq, rl⟩ = reT Ly Wd (rrowAt 14) ⟨15, rd, rs1, rs2, csr, imm, aq, rl⟩ := by kernel_rfl
theorem re15 (Ly : Int → Int → Int × Bool) (Wd : RRow → Inst → Int) (rd rs1 rs2 csr imm : Int) (aq rl : Bool) : reL Ly Wd ⟨16, rd, rs1, rs2, csr, imm, aq, rl⟩ = reT Ly Wd (rrowAt 15) ⟨16, rd, rs1, rs2, csr, imm, aq, rl⟩ := by kernel_rfl
theorem re16 (Ly : Int → Int → Int × Bool) (Wd : RRow → Inst → Int) (rd rs1 rs2 csr imm : Int) (aq rl : Bool) : reL Ly Wd ⟨17, rd, rs1, rs2, csr, imm, aq, rl⟩ = reT Ly Wd (rrowAt 16) ⟨17, rd, rs1, rs2, csr, imm, aq, rl⟩ := by kernel_rfl
theorem re17 (Ly : Int → Int → Int × Bool) (Wd : RRow → Inst → Int) (rd rs1 rs2 csr imm : Int) (aq rl : Bool) : reL Ly Wd ⟨18, rd, rs1, rs2, csr, imm, aq, rl⟩ = reT Ly Wd (rrowAt 17) ⟨18, rd, rs1, rs2, csr, imm, aq, rl⟩ := by kernel_rfl
theorem re18 (Ly : Int → Int → Int × Bool) (Wd : RRow → Inst → Int) (rd rs1 rs2 csr imm : Int) (aq rl : Bool) : reL Ly Wd ⟨19, rd, rs1, rs2, csr, imm, aq, rl⟩ = reT Ly Wd (rrowAt 18) ⟨19, rd, rs1, rs2, csr, imm, aq, rl⟩ := by kernel_rfl
theorem re19 (Ly : Int → Int → Int × Bool) (Wd : RRow → Inst → Int) (rd rs1 rs2 csr imm : Int) (aq rl : Bool) : reL Ly Wd ⟨20, rd, rs1, rs2, csr, imm, aq, rl⟩ = reT Ly Wd (rrowAt 19) ⟨20, rd, rs1, rs2, csr, imm, aq, rl⟩ := by kernel_rfl
theorem re20 (Ly : Int → Int → Int × Bool) (Wd : RRow → Inst → Int) (rd rs1 rs2 csr imm : Int) (aq rl : Bool) : reL Ly Wd ⟨21, rd, rs1, rs2, csr, imm, aq, rl⟩ = reT Ly Wd (rrowAt 20) ⟨21, rd, rs1, rs2, csr, imm, aq, rl⟩ := by kernel_rfl
theorem re21 (Ly : Int → Int → Int × Bool) (Wd : RRow → Inst → Int) (rd rs1 rs2 csr imm : Int) (aq rl : Bool) : reL Ly Wd ⟨22, rd, rs1, rs2, csr, imm, aq, rl⟩ = reT Ly Wd (rrowAt 21) ⟨22, rd, rs1, rs2, csr, imm, aq, rl⟩ := by kernel_rfl
theorem re22 (Ly : Int → Int → Int × Bool) (Wd : RRow → Inst → Int) (rd rs1 rs2 csr imm : Int) (aq rl : Bool) : reL Ly Wd ⟨23, rd, rs1, rs2, csr, imm, aq, rl⟩ = reT Ly Wd (rrowAt 22) ⟨23, rd, rs1, rs2, csr, imm, aq, rl⟩ := by kernel_rfl
theorem re23 (Ly : Int → Int → Int × Bool) (Wd : RRow → Inst → Int) (rd rs1 rs2 csr imm : Int) (aq rl : Bool) : reL Ly Wd ⟨24, rd, rs1, rs2, csr, imm, aq, rl⟩ = reT Ly Wd (rrowAt 23) ⟨24, rd, rs1, rs2, csr, imm, aq, rl⟩ := by kernel_rfl
theorem re24 (Ly : Int → Int → Int × Bool) (Wd : RRow → Inst → Int) (rd rs1 rs2 csr imm : Int) (aq rl : Bool) : reL Ly Wd ⟨25, rd, rs1, rs2, csr, imm, aq, rl⟩ = reT Ly Wd (rrowAt 24) ⟨25, rd, rs1, rs2, csr, imm, aq, rl⟩ := by kernel_rfl
theorem re25 (Ly : Int → Int → Int × Bool) (Wd : RRow → Inst → Int) (rd rs1 rs2 csr imm : Int) (aq rl : Bool) : reL Ly Wd ⟨26, rd, rs1, rs2, csr, imm, aq, rl⟩ = reT Ly Wd (rrowAt 25) ⟨26, rd, rs1, rs2, csr, imm, aq, rl⟩ := by kernel_rfl
theorem re26 (Ly : Int → Int → Int × Bool) (Wd : RRow → Inst → Int) (rd rs1 rs2 csr imm : Int) (aq rl : Bool) : reL Ly Wd ⟨27, rd, rs1, rs2, csr, imm, aq, rl⟩ = reT Ly Wd (rrowAt 26) ⟨27, rd, rs1, rs2, csr, imm, aq, rl⟩ := by kernel_rfl
theorem re27 (Ly : Int → Int → Int × Bool) (Wd : RRow → Inst → Int) (rd rs1 rs2 csr imm : Int) (aq rl : Bool) : reL Ly Wd ⟨28, rd, rs1, rs2, csr, imm, aq, rl⟩ = reT Ly Wd (rrowAt 27) ⟨28, rd, rs1, rs2, csr, imm, aq, rl⟩ := by kernel_rfl
theorem re28 (Ly : Int → Int → Int × Bool) (Wd : RRow → Inst → Int) (rd rs1 rs2 csr imm : Int) (aq rl : Bool) : reL Ly Wd ⟨29, rd, rs1, rs2, csr, imm, aq, rl⟩ = reT Ly Wd (rrowAt 28) ⟨29, rd, rs1, rs2, csr, imm, aq, rl⟩ := by kernel_rfl
theorem re29 (Ly : Int → Int → Int × Bool) (Wd : RRow → Inst → Int) (rd rs1 rs2 csr imm : Int) (aq rl : Bool) : reL Ly Wd ⟨30, rd, rs1, rs2, csr, imm, aq, rl⟩ = reT Ly Wd (rrowAt 29) ⟨30, rd, rs1, rs2, csr, imm, aq, rl⟩ := by kernel_rfl
theorem re30 (Ly : Int → Int → Int × Bool) (Wd : RRow → Inst → Int) (rd rs1 rs2 csr imm : Int) (aq rl : Bool) : reL Ly Wd ⟨31, rd, rs1, rs2, csr, imm, aq, rl⟩ = reT Ly Wd (rrowAt 30) ⟨31, rd, rs1, rs2, csr, imm, aq, rl⟩ := by kernel_rfl
theorem re31 (Ly : Int → Int → Int × Bool) (Wd : RRow → Inst → Int) (rd rs1 rs2 csr imm : Int) (aq rl : Bool) : reL Ly Wd ⟨32, rd, rs1, rs2, csr, imm, aq, rl⟩ = reT Ly Wd (rrowAt 31) ⟨32, rd, rs1, rs2, csr, imm, aq, rl⟩ := by kernel_rfl
theorem re32 (Ly : Int → Int → Int × Bool) (Wd : RRow → Inst → Int) (rd rs1 rs2 csr imm : Int) (aq rl : Bool) : reL Ly Wd ⟨33, rd, rs1, rs2, csr, imm, aq, rl⟩ = reT Ly Wd (rrowAt 32) ⟨33, rd, rs1, rs2, csr, imm, aq, rl⟩ := by kernel_rfl
theorem re33 (Ly : Int → Int → Int × Bool) (Wd : RRow → Inst → Int) (rd rs1 rs2 csr imm : Int) (aq rl : Bool) : reL Ly Wd ⟨34, rd, rs1, rs2, csr, imm, aq, rl⟩ = reT Ly Wd (rrowAt 33) ⟨34, rd, rs1, rs2, csr, imm, aq, rl⟩ := by kernel_rfl
theorem re34 (Ly : Int → Int → Int × Bool) (Wd : RRow → Inst → Int) (rd rs1 rs2 csr imm : Int) (aq rl : Bool) : reL Ly Wd ⟨35, rd, rs1, rs2, csr, imm, aq, rl⟩ = reT Ly Wd (rrowAt 34) ⟨35, rd, rs1, rs2, csr, imm, aq, rl⟩ := by kernel_rfl
theorem re35 (Ly : Int → Int → Int × Bool) (Wd : RRow → Inst → Int) (rd rs1 rs2 csr imm : Int) (aq rl : Bool) : reL Ly Wd ⟨36, rd, rs1, rs2, csr, imm, aq, rl⟩ = reT Ly Wd (rrowAt 35) ⟨36, rd, rs1, rs2, csr, imm, aq, rl⟩ := by kernel_rfl
theorem re36 (Ly : Int → Int → Int × Bool) (Wd : RRow → Inst → Int) (rd rs1 rs2 csr imm : Int) (aq rl : Bool) : reL Ly Wd ⟨37, rd, rs1, rs2, csr, imm, aq, rl⟩ = reT Ly Wd (rrowAt 36) ⟨37, rd, rs1, rs2, csr, imm, aq, rl⟩ := by kernel_rfl
theorem re37 (Ly : Int → Int → Int × Bool) (Wd : RRow → Inst → Int) (rd rs1 rs2 csr imm : Int) (aq rl : Bool) : reL Ly Wd ⟨38, rd, rs1, rs2, csr, imm, aq, rl⟩ = reT Ly Wd (rrowAt 37) ⟨38, rd, rs1, rs2, csr, imm, aq, rl⟩ := by kernel_rfl
theorem re38 (Ly : Int → Int → Int × Bool) (Wd : RRow → Inst → Int) (rd rs1 rs2 csr imm : Int) (aq rl : Bool) : reL Ly Wd ⟨39, rd, rs1, rs2, csr, imm, aq, rl⟩ = reT Ly Wd (rrowAt 38) ⟨39, rd, rs1, rs2, csr, imm, aq, rl⟩ := by kernel_rfl
theorem re39 (Ly : Int → Int → Int × Bool) (Wd : RRow → Inst → Int) (rd rs1 rs2 csr imm : Int) (aq rl : Bool) : reL Ly Wd ⟨40, rd, rs1, rs2, csr, imm, aq, rl⟩ = reT Ly Wd (rrowAt 39) ⟨40, rd, rs1, rs2, csr, imm, aq, rl⟩ := by kernel_rfl
theorem re40 (Ly : Int → Int → Int × Bool) (Wd : RRow → Inst → Int) (rd rs1 rs2 csr imm : Int) (aq rl : Bool) : reL Ly Wd ⟨41, rd, rs1, rs2, csr, imm, aq, rl⟩ = reT Ly Wd (rrowAt 40) ⟨41, rd, rs1, rs2, csr, imm, aq, rl⟩ := by kernel_rfl
theorem re41 (Ly : Int → Int → Int × Bool) (Wd : RRow → Inst → Int) (rd rs1 rs2 csr imm : Int) (aq rl : Bool) : reL Ly Wd ⟨42, rd, rs1, rs2, csr, imm, aq, rl⟩ = reT Ly Wd (rrowAt 41) ⟨42, rd, rs1, rs2, csr, imm, aq, rl⟩ := by kernel_rfl
theorem re42 (Ly : Int → Int → Int × Bool) (Wd : RRow → Inst → Int) (rd rs1 rs2 csr imm : Int) (aq rl : Bool) : reL Ly Wd ⟨43, rd, rs1, rs2, csr, imm, aq, rl⟩ = reT Ly Wd (rrowAt 42) ⟨43, rd, rs1, rs2, csr, imm, aq, rl⟩ := by kernel_rfl
theorem re43 (Ly : Int → Int → Int × Bool) (Wd : RRow → Inst → Int) (rd rs1 rs2 csr imm : Int) (aq rl : Bool) : reL Ly Wd ⟨44, rd, rs1, rs2, csr, imm, aq, rl⟩ = reT Ly Wd (rrowAt 43) ⟨44, rd, rs1, rs2, csr, imm, aq, rl⟩ := by kernel_rfl
theorem re44 (Ly : Int → Int → Int × Bool) (Wd : RRow → Inst → Int) (rd rs1 rs2 csr imm : Int) (aq rl : Bool) : reL Ly Wd ⟨45, rd, rs1, rs2, csr, imm, aq, rl⟩ = reT Ly Wd (rrowAt 44) ⟨45, rd, rs1, rs2, csr, imm, aq, rl⟩ := by kernel_rfl
theorem re45 (Ly : Int → Int → Int × Bool) (Wd : RRow → Inst → Int) (rd rs1 rs2 csr imm : Int) (aq rl : Bool) : reL Ly Wd ⟨46, rd, rs1, rs2, csr, imm, aq, rl⟩ = reT Ly Wd (rrowAt 45) ⟨46, rd, rs1, rs2, csr, imm, aq, rl⟩ := by kernel_rfl
theorem re46 (Ly : Int → Int → Int × Bool) (Wd : RRow → Inst → Int) (rd rs1 rs2 csr imm : Int) (aq rl : Bool) : reL Ly Wd ⟨47, rd, rs1, rs2, csr, imm, aq, rl⟩ = reT Ly Wd (rrowAt 46) ⟨47, rd, rs1, rs2, csr, imm, aq, rl⟩ := by kernel_rfl
theorem re47 (Ly : Int → Int → Int × Bool) (Wd : RRow → Inst → Int) (rd rs1 rs2 csr imm : Int) (aq rl : Bool) : reL Ly Wd ⟨48, rd, rs1, rs2, csr, imm, aq, rl⟩ = reT Ly Wd (rrowAt 47) ⟨48, rd, rs1, rs2, csr, imm, aq, rl⟩ := by kernel_rfl
theorem re48 (Ly : Int → Int → Int × Bool) (Wd : RRow → Inst → Int) (rd rs1 rs2 csr imm : Int) (aq rl : Bool) : reL Ly Wd ⟨49, rd, rs1, rs2, csr, imm, aq, rl⟩ = reT Ly Wd (rrowAt 48) ⟨49, rd, rs1, rs2, csr, imm, aq, rl⟩ := by kernel_rfl
theorem re49 (Ly : Int → Int → Int × Bool) (Wd : RRow → Inst → Int) (rd rs1 rs2 csr imm : Int) (aq rl : Bool) : reL Ly Wd ⟨50, rd, rs1, rs2, csr, imm, aq, rl⟩ = reT Ly Wd (rrowAt 49) ⟨50, rd, rs1, rs2, csr, imm, aq, rl⟩ := by kernel_rfl
theorem re50 (Ly : Int → Int → Int × Bool) (Wd : RRow → Inst → Int) (rd rs1 rs2 csr imm : Int) (aq rl : Bool) : reL Ly Wd ⟨51, rd, rs1, rs2, csr, imm, aq, rl⟩ = reT Ly Wd (rrowAt 50) ⟨51, rd, rs1, rs2, csr, imm, aq, rl⟩ := by kernel_rfl
theorem re51 (Ly : Int → Int → Int × Bool) (Wd : RRow → Inst → Int) (rd rs1 rs2 csr imm : Int) (aq rl : Bool) : reL Ly Wd ⟨52, rd, rs1, rs2, csr, imm, aq, rl⟩ = reT Ly Wd (rrowAt 51) ⟨52, rd, rs1, rs2, csr, imm, aq, rl⟩ := by kernel_rfl
theorem re52 (Ly : Int → Int → Int × Bool) (Wd : RRow → Inst → Int) (rd rs1 rs2 csr imm : Int) (aq rl : Bool) : reL Ly Wd ⟨53, rd, rs1, rs2, csr, imm, aq, rl⟩ = reT Ly Wd (rrowAt 52) ⟨53, rd, rs1, rs2, csr, imm, aq, rl⟩ := by kernel_rfl
theorem re53 (Ly : Int → Int → Int × Bool) (Wd : RRow → Inst → Int) (rd rs1 rs2 csr imm : Int) (aq rl : Bool) : reL Ly Wd ⟨54, rd, rs1, rs2, csr, imm, aq, rl⟩ = reT Ly Wd (rrowAt 53) ⟨54, rd, rs1, rs2, csr, imm, aq, rl⟩ := by kernel_rfl
theorem re54 (Ly : Int → Int → Int × Bool) (Wd : RRow → Inst → Int) (rd rs1 rs2 csr imm : Int) (aq rl : Bool) : reL Ly Wd ⟨55, rd, rs1, rs2, csr, imm, aq, rl⟩ = reT Ly Wd (rrowAt 54) ⟨55, rd, rs1, rs2, csr, imm, aq, rl⟩ := by kernel_rfl
theorem re55 (Ly : Int → Int → Int × Bool) (Wd : RRow → Inst → Int) (rd rs1 rs2 csr imm : Int) (aq rl : Bool) : reL Ly Wd ⟨56, rd, rs1, rs2, csr, imm, aq, rl⟩ = reT Ly Wd (rrowAt 55) ⟨56, rd, rs1, rs2, csr, imm, aq, rl⟩ := by kernel_rfl
theorem re56 (Ly : Int → Int → Int × Bool) (Wd : RRow → Inst → Int) (rd rs1 rs2 csr imm : Int) (aq rl : Bool) : reL Ly Wd ⟨57, rd, rs1, rs2, csr, imm, aq, rl⟩ = reT Ly Wd (rrowAt 56) ⟨57, rd, rs1, rs2, csr, imm, aq, rl⟩ := by kernel_rfl
theorem re57 (Ly : Int → Int → Int × Bool) (Wd : RRow → Inst → Int) (rd rs1 rs2 csr imm : Int) (aq rl : Bool) : reL Ly Wd ⟨58, rd, rs1, rs2, csr, imm, aq, rl⟩ = reT Ly Wd (rrowAt 57) ⟨58, rd, rs1, rs2, csr, imm, aq, rl⟩ := by kernel_rfl
theorem re58 (Ly : Int → Int → Int × Bool) (Wd : RRow → Inst → Int) (rd rs1 rs2 csr imm : Int) (aq rl : Bool) : reL Ly Wd ⟨59, rd, rs1, rs2, csr, imm, aq, rl⟩ = reT Ly Wd (rrowAt 58) ⟨59, rd, rs1, rs2, csr, imm, aq, rl⟩ := by kernel_rfl
theorem re59 (Ly : Int → Int → Int × Bool) (Wd : RRow → Inst → Int) (rd rs1 rs2 csr imm : Int) (aq rl : Bool) : reL Ly Wd ⟨60, rd, rs1, rs2, csr, imm, aq, rl⟩ = reT Ly Wd (rrowAt 59) ⟨60, rd, rs1, rs2, csr, imm, aq, rl⟩ := by kernel_rfl
theorem re60 (Ly : Int → Int → Int × Bool) (Wd : RRow → Inst → Int) (rd rs1 rs2 csr imm : Int) (aq rl : Bool) : reL Ly Wd ⟨61, rd, rs1, rs2, csr, imm, aq, rl⟩ = reT Ly Wd (rrowAt 60) ⟨61, rd, rs1, rs2, csr, imm, aq, rl⟩ := by kernel_rfl
theorem re61 (Ly : Int → Int → Int × Bool) (Wd : RRow → Inst → Int) (rd rs1 rs2 csr imm : Int) (aq rl : Bool) : reL Ly Wd ⟨62, rd, rs1, rs2, csr, imm, aq, rl⟩ = reT Ly Wd (rrowAt 61) ⟨62, rd, rs1, rs2, csr, imm, aq, rl⟩ := by kernel_rfl
theorem re62 (Ly : Int → Int → Int × Bool) (Wd : RRow → Inst → Int) (rd rs1 rs2 csr imm : Int) (aq rl : Bool) : reL Ly Wd ⟨63, rd, rs1, rs2, csr, imm, aq, rl⟩ = reT Ly Wd (rrowAt 62) ⟨63, rd, rs1, rs2, csr, imm, aq, rl⟩ := by kernel_rfl
theorem re63 (Ly : Int → Int → Int × Bool) (Wd : RRow → Inst → Int) (rd rs1 rs2 csr imm : Int) (aq rl : Bool) : reL Ly Wd ⟨64, rd, rs1, rs2, csr, imm, aq, rl⟩ = reT Ly Wd (rrowAt 63) ⟨64, rd, rs1, rs2, csr, imm, aq, rl⟩ := by kernel_rfl
theorem re64 (Ly : Int → Int → Int × Bool) (Wd : RRow → Inst → Int) (rd rs1 rs2 csr imm : Int) (aq rl : Bool) : reL Ly Wd ⟨65, rd, rs1, rs2, csr, imm, aq, rl⟩ = reT Ly Wd (rrowAt 64) ⟨65, rd, rs1, rs2, csr, imm, aq, rl⟩ := by kernel_rfl
theorem re65 (Ly : Int → Int → Int × Bool) (Wd : RRow → Inst → Int) (rd rs1 rs2 csr imm : Int) (aq rl : Bool) : reL Ly Wd ⟨66, rd, rs1, rs2, csr, imm, aq, rl⟩ = reT Ly Wd (rrowAt 65) ⟨66, rd, rs1, rs2, csr, imm, aq, rl⟩ := by kernel_rfl
theorem re66 (Ly : Int → Int → Int × Bool) (Wd : RRow → Inst → Int) (rd rs1 rs2 csr imm : Int) (aq rl : Bool) : reL Ly Wd ⟨67, rd, rs1, rs2, csr, imm, aq, rl⟩ = reT Ly Wd (rrowAt 66) ⟨67, rd, rs1, rs2, csr, imm, aq, rl⟩ := by kernel_rfl
theorem re67 (Ly : Int → Int → Int × Bool) (Wd : RRow → Inst → Int) (rd rs1 rs2 csr imm : Int) (aq rl : Bool) : reL Ly Wd ⟨68, rd, rs1, rs2, csr, imm, aq, rl⟩ = reT Ly Wd (rrowAt 67) ⟨68, rd, rs1, rs2, csr, imm, aq, rl⟩ := by kernel_rfl
theorem re68 (Ly : Int → Int → Int × Bool) (Wd : RRow → Inst → Int) (rd rs1 rs2 csr imm : Int) (aq rl : Bool) : reL Ly Wd ⟨69, rd, rs1, rs2, csr, imm, aq, rl⟩ = reT Ly Wd (rrowAt 68) ⟨69, rd, rs1, rs2, csr, imm, aq, rl⟩ := by kernel_rfl
theorem reAll (Ly : Int → Int → Int × Bool) (Wd : RRow → Inst → Int) (rd rs1 rs2 csr imm : Int) (aq rl : Bool) : ∀ k : Nat, k < 69 → reL Ly Wd ⟨(k : Int) + 1, rd, rs1, rs2, csr, imm, aq, rl⟩ = reT Ly Wd (rrowAt k) ⟨(k : Int) + 1, rd, rs1, rs2, csr, imm, aq, rl⟩
  | 0, _ => re0 Ly Wd rd rs1 rs2 csr imm aq rl
  | 1, _ => re1 Ly Wd rd rs1 rs2 csr imm aq rl
  | 2, _ => re2 Ly Wd rd rs1 rs2 csr imm aq rl
  | 3, _ => re3 Ly Wd rd rs1 rs2 csr imm aq rl
  | 4, _ => re4 Ly Wd rd rs1 rs2 csr imm aq rl
  | 5, _ => re5 Ly Wd rd rs1 rs2 csr imm aq rl
  | 6, _ => re6 Ly Wd rd rs1 rs2 csr imm aq rl
  | 7, _ => re7 Ly Wd rd rs1 rs2 csr imm aq rl
  | 8, _ => re8 Ly Wd rd rs1 rs2 csr imm aq rl
  | 9, _ => re9 Ly Wd rd rs1 rs2 csr imm aq rl
  | 10, _ => re10 Ly Wd rd rs1 rs2 csr imm aq rl
  | 11, _ => re11 Ly Wd rd rs1 rs2 csr imm aq rl
  | 12, _ => re12 Ly Wd rd rs1 rs2 csr imm aq rl
  | 13, _ => re13 Ly Wd rd rs1 rs2 csr imm aq rl
  | 14, _ => re14 Ly Wd rd rs1 rs2 csr imm aq rl
  | 15, _ => re15 Ly Wd rd rs1 rs2 csr imm aq rl
  | 16, _ => re16 Ly Wd rd rs1 rs2 csr imm aq rl
  | 17, _ => re17 Ly Wd rd rs1 rs2 csr imm aq rl
  | 18, _ => re18 Ly Wd rd rs1 rs2 csr imm aq rl
  | 19, _ => re19 Ly Wd rd rs1 rs2 csr imm aq rl
  | 20, _ => re20 Ly Wd rd rs1 rs2 csr imm aq rl
  | 21, _ => re21 Ly Wd rd rs1 rs2 csr imm aq rl
  | 22, _ => re22 Ly Wd rd rs1 rs2 csr imm aq rl
  | 23, _ => re23 Ly Wd rd rs1 rs2 csr imm aq rl
  | 24, _ => re24 Ly Wd rd rs1 rs2 csr imm aq rl
  | 25, _ => re25 Ly Wd rd rs1 rs2 csr imm aq rl
  | 26, _ => re26 Ly Wd rd rs1 rs2 csr imm aq rl
  | 27, _ => re27 Ly Wd rd rs1 rs2 csr imm aq rl
  | 28, _ => re28 Ly Wd rd rs1 rs2 csr imm aq rl
  | 29, _ => re29 Ly Wd rd rs1 rs2 csr imm aq rl
  | 30, _ => re30 Ly Wd rd rs1 rs2 csr imm aq rl
  | 31, _ => re31 Ly Wd rd rs1 rs2 csr imm aq rl
  | 32, _ => re32 Ly Wd rd rs1 rs2 csr imm aq rl
  | 33, _ => re33 Ly Wd rd rs1 rs2 csr imm aq rl
  | 34, _ => re34 Ly Wd rd rs1 rs2 csr imm aq rl
  | 35, _ => re35 Ly Wd rd rs1 rs2 csr imm aq rl
  | 36, _ => re36 Ly Wd rd rs1 rs2 csr imm aq rl
  | 37, _ => re37 Ly Wd rd rs1 rs2 csr imm aq rl
  | 38, _ => re38 Ly Wd rd rs1 rs2 csr imm aq rl
  | 39, _ => re39 Ly Wd rd rs1 rs2 csr imm aq rl
  | 40, _ => re40 Ly Wd rd rs1 rs2 csr imm aq rl
  | 41, _ => re41 Ly Wd rd rs1 rs2 csr imm aq rl
  | 42, _ => re42 Ly Wd rd rs1 rs2 csr imm aq rl
  | 43, _ => re43 Ly Wd rd rs1 rs2 csr imm aq rl
  | 44, _ => re44 Ly Wd rd rs1 rs2 csr imm aq rl
  | 45, _ => re45 Ly Wd rd rs1 rs2 csr imm aq rl
  | 46, _ => re46 Ly Wd rd rs1 rs2 csr imm aq rl
  | 47, _ => re47 Ly Wd rd rs1 rs2 csr imm aq rl
  | 48, _ => re48 Ly Wd rd rs1 rs2 csr imm aq rl
  | 49, _ => re49 Ly Wd rd rs1 rs2 csr imm aq rl
  | 50, _ => re50 Ly Wd rd rs1 rs2 csr imm aq rl
  | 51, _ => re51 Ly Wd rd rs1 rs2 csr imm aq rl
  | 52, _ => re52 Ly Wd rd rs1 rs2 csr imm aq rl
  | 53, _ => re53 Ly Wd rd rs1 rs2 csr imm aq rl
  | 54, _ => re54 Ly Wd rd rs1 rs2 csr imm aq rl
  | 55, _ => re55 Ly Wd rd rs1 rs2 csr imm aq rl
  | 56, _ => re56 Ly Wd rd rs1 rs2 csr imm aq rl
  | 57, _ => re57 Ly Wd rd rs1 rs2 csr imm aq rl
  | 58, _ => re58 Ly Wd rd rs1 rs2 csr imm aq rl
  | 59, _ => re59 Ly Wd rd rs1 rs2 csr imm aq rl
  | 60, _ => re60 Ly Wd rd rs1 rs2 csr imm aq rl
  | 61, _ => re61 Ly Wd rd rs1 rs2 csr imm aq rl
  | 62, _ => re62 Ly Wd rd rs1 rs2 csr imm aq rl
  | 63, _ => re63 Ly Wd rd rs1 rs2 csr imm aq rl
  | 64, _ => re64 Ly Wd rd rs1 rs2 csr imm aq rl
  | 65, _ => re65 Ly Wd rd rs1 rs2 csr imm aq rl
  | 66, _ => re66 Ly Wd rd rs1 rs2 csr imm aq rl
  | 67, _ => re67 Ly Wd rd rs1 rs2 csr imm aq rl
  | 68, _ => re68 Ly Wd rd rs1 rs2 csr imm aq rl
  | n + 69, h => absurd h (by omega)
end Go.Proofs.YtgkicojmgokinaaGreatDoor.Ab
