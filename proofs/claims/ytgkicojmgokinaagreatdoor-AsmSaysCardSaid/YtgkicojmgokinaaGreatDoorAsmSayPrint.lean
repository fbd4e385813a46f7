/- Trimmed: AsmSayPrint -/
import Derived.Test.YtgkicojmgokinaaGreatDoorAsmSayOf
import Derived.Test.YtgkicojmgokinaaGreatDoorAsmSame
namespace Go.Proofs.YtgkicojmgokinaaGreatDoor.Ab
open Go Go.RowKit
set_option linter.unusedVariables false
set_option linter.unusedSimpArgs false
set_option maxRecDepth 100000
noncomputable def rnΦ (I : Int → ByteArray) : Oracle := fun lo f args H => match f with
  | 34 => match args with
    | [.int .i64 n] => some [(in64 n, .string (I n), H)]
    | _ => none
  | _ => none
theorem rnΦ_ok : CtxOK Tryz.prog (ctx (rnΦ (fun n => bs (Lib.itoa n)))) := ctxOK fun lo f args H l v H' h hm => by
  unfold rnΦ at h
  split at h
  · split at h
    · cases h
      simp only [List.mem_cons, List.not_mem_nil, or_false, Prod.mk.injEq] at hm
      obtain ⟨hc, rfl, rfl⟩ := hm
      exact ⟨(itoaOK' hc.symm).call (gh_plains rfl) lo H', rfl⟩
    · cases h
  · cases h
theorem rreg_run (I : Int → ByteArray) (n : Int) : callK (ctx (rnΦ I)) 20 0 33 [.int .i64 n] [] (fun v _ => some v) = bif in64 n then (bif okLen cx (I n) then some (.string (cx ++ I n)) else none) else none := by kernel_rfl
theorem rsgn_run (I : Int → ByteArray) (w : Int) : callK (ctx (rnΦ I)) 20 0 35 [.int .u32 w] [] (fun v _ => some v) = bif in64 (IntKind.i64.wrap (IntKind.i32.wrap w)) then some (.string (I (IntKind.i64.wrap (IntKind.i32.wrap w)))) else none := by kernel_rfl
theorem rregOK {n : Int} (h : isReg n = true) : PureOK Tryz.prog 33 [.int .i64 n] (.string (bs (xL n))) := by
  have r := rreg_run (fun n => bs (Lib.itoa n)) n
  have l := itoa_len (reg64 h)
  rw [reg64 h, cond_true, show okLen cx (bs (Lib.itoa n)) = true from okLen_of (by simp; omega), cond_true] at r
  exact PureOK.of_run rnΦ_ok r (Gh.plain rfl)
theorem rsgnOK (w : Int) : PureOK Tryz.prog 35 [.int .u32 w] (.string (bs (sgL w))) := by
  have r := rsgn_run (fun n => bs (Lib.itoa n)) w
  rw [in64_wrap, cond_true] at r
  exact PureOK.of_run rnΦ_ok r (Gh.plain rfl)
theorem rhex3_run (w : Int) : callK (ctx noΦ) 20 0 36 [.int .u32 w, .int .i64 3] [] (fun v _ => some v) = rhexT w [8, 4, 0] ⟨#[]⟩ := by kernel_rfl
theorem rhex3OK (w : Int) : PureOK Tryz.prog 36 [.int .u32 w, .int .i64 3] (.string (bs (hxL w))) :=
  PureOK.of_run noOK ((rhex3_run w).trans (rhexT_eq w [8, 4, 0] [] (by simp))) (Gh.plain rfl)
noncomputable def rpΦ (X Sg It Hx : Int → ByteArray) : Oracle := fun lo f args H => match f with
  | 29 => match args with
    | [.int .i64 op] => some [(isOp op, ofV (op - 1).toNat, H)]
    | _ => none
  | 33 => match args with
    | [.int .i64 n] => some [(isReg n, .string (X n), H)]
    | _ => none
  | 35 => match args with
    | [.int .u32 n] => some [(true, .string (Sg n), H)]
    | _ => none
  | 36 => match args with
    | [.int .u32 n, .int .i64 3] => some [(true, .string (Hx n), H)]
    | _ => none
  | 34 => match args with
    | [.int .i64 n] => some [(in64 n, .string (It n), H)]
    | _ => none
  | _ => none
theorem rpΦ_ok : CtxOK Tryz.prog (ctx (rpΦ (fun n => bs (xL n)) (fun n => bs (sgL n)) (fun n => bs (Lib.itoa n)) (fun n => bs (hxL n)))) := ctxOK fun lo f args H l v H' h hm => by
  unfold rpΦ at h
  split at h
  · split at h
    · cases h
      simp only [List.mem_cons, List.not_mem_nil, or_false, Prod.mk.injEq] at hm
      obtain ⟨hc, rfl, rfl⟩ := hm
      exact ⟨(ofOK hc.symm).call (gh_plains rfl) lo H', rfl⟩
    · cases h
  · split at h
    · cases h
      simp only [List.mem_cons, List.not_mem_nil, or_false, Prod.mk.injEq] at hm
      obtain ⟨hc, rfl, rfl⟩ := hm
      exact ⟨(rregOK hc.symm).call (gh_plains rfl) lo H', rfl⟩
    · cases h
  · split at h
    · cases h
      simp only [List.mem_cons, List.not_mem_nil, or_false, Prod.mk.injEq] at hm
      obtain ⟨hc, rfl, rfl⟩ := hm
      exact ⟨(rsgnOK _).call (gh_plains rfl) lo H', rfl⟩
    · cases h
  · split at h
    · cases h
      simp only [List.mem_cons, List.not_mem_nil, or_false, Prod.mk.injEq] at hm
      obtain ⟨hc, rfl, rfl⟩ := hm
      exact ⟨(rhex3OK _).call (gh_plains rfl) lo H', rfl⟩
    · cases h
  · split at h
    · cases h
      simp only [List.mem_cons, List.not_mem_nil, or_false, Prod.mk.injEq] at hm
      obtain ⟨hc, rfl, rfl⟩ := hm
      exact ⟨(itoaOK' hc.symm).call (gh_plains rfl) lo H', rfl⟩
    · cases h
  · cases h
def spS : ByteArray := ⟨⟨[32]⟩⟩
def cmS : ByteArray := ⟨⟨[44, 32]⟩⟩
def cpS : ByteArray := ⟨⟨[44, 32, 40]⟩⟩
def chS : ByteArray := ⟨⟨[44, 32, 48, 120]⟩⟩
def aqS : ByteArray := ⟨⟨[46, 97, 113]⟩⟩
def rlS : ByteArray := ⟨⟨[46, 114, 108]⟩⟩
def catT (s : ByteArray) : List (Bool × ByteArray) → Option Value
  | [] => some (.string s)
  | (g, p) :: r => bif g then (bif okLen s p then catT (s ++ p) r else none) else none
def psN (X Sg It Hx : Int → ByteArray) (i : Inst) : Nat → List (Bool × ByteArray)
  | 0 => [(true, spS), (true, X i.rd), (true, cmS), (in64 (IntKind.i64.wrap (i.imm.fdiv 4096)), It (IntKind.i64.wrap (i.imm.fdiv 4096)))]
  | 1 => [(true, spS), (true, X i.rd), (true, cmS), (true, Sg i.imm)]
  | 2 => [(true, spS), (true, X i.rd), (true, cmS), (true, Sg i.imm), (true, c28), (true, X i.rs1), (true, c29)]
  | 3 => [(true, spS), (true, X i.rs1), (true, cmS), (true, X i.rs2), (true, cmS), (true, Sg i.imm)]
  | 4 => [(true, spS), (true, X i.rs2), (true, cmS), (true, Sg i.imm), (true, c28), (true, X i.rs1), (true, c29)]
  | 5 => [(true, spS), (true, X i.rd), (true, cmS), (true, X i.rs1), (true, cmS), (true, Sg i.imm)]
  | 6 => [(true, spS), (true, X i.rd), (true, cmS), (true, X i.rs1), (true, cmS), (in64 (IntKind.i64.wrap i.imm), It (IntKind.i64.wrap i.imm))]
  | 7 => [(true, spS), (true, X i.rd), (true, cmS), (true, X i.rs1), (true, cmS), (true, X i.rs2)]
  | 8 => [(true, spS), (in64 (IntKind.i64.wrap (i.imm.fdiv 16)), It (IntKind.i64.wrap (i.imm.fdiv 16))), (true, cmS), (in64 (IntKind.i64.wrap (bits .and .u32 i.imm 15)), It (IntKind.i64.wrap (bits .and .u32 i.imm 15)))]
  | 9 => []
  | 10 => [(true, spS), (true, X i.rs1), (true, cmS), (true, X i.rs2)]
  | 11 => [(true, spS), (true, X i.rd), (true, chS), (true, Hx (IntKind.u32.wrap i.csr)), (true, cmS), (true, X i.rs1)]
  | 12 => [(true, spS), (true, X i.rd), (true, chS), (true, Hx (IntKind.u32.wrap i.csr)), (true, cmS), (in64 (IntKind.i64.wrap i.imm), It (IntKind.i64.wrap i.imm))]
  | 13 => [(true, spS), (true, X i.rd), (true, cpS), (true, X i.rs1), (true, c29)]
  | 14 => [(true, spS), (true, X i.rd), (true, cmS), (true, X i.rs2), (true, cpS), (true, X i.rs1), (true, c29)]
  | _ => []
def rpF (ps : List (Bool × ByteArray)) (i : Inst) (s : ByteArray) : Option Value := bif isReg i.rd then (bif isReg i.rs1 then (bif isReg i.rs2 then catT s ps else none) else none) else none
def rpT (nm : ByteArray) (ps : List (Bool × ByteArray)) (i : Inst) : Option Value :=
  bif i.aq then (bif okLen nm aqS then (bif i.rl then (bif okLen (nm ++ aqS) rlS then rpF ps i ((nm ++ aqS) ++ rlS) else none) else rpF ps i (nm ++ aqS)) else none) else (bif i.rl then (bif okLen nm rlS then rpF ps i (nm ++ rlS) else none) else rpF ps i nm)
noncomputable def rpL (X Sg It Hx : Int → ByteArray) (i : Inst) : Option Value := callK (ctx (rpΦ X Sg It Hx)) 20 0 11 [instV i] [] (fun v _ => some v)
theorem rp0 (X Sg It Hx : Int → ByteArray) (rd rs1 rs2 csr imm : Int) (aq rl : Bool) : rpL X Sg It Hx ⟨1, rd, rs1, rs2, csr, imm, aq, rl⟩ = rpT (rrowAt 0).nm (psN X Sg It Hx ⟨1, rd, rs1, rs2, csr, imm, aq, rl⟩ 0) ⟨1, rd, rs1, rs2, csr, imm, aq, rl⟩ := by kernel_rfl
theorem rp1 (X Sg It Hx : Int → ByteArray) (rd rs1 rs2 csr imm : Int) (aq rl : Bool) : rpL X Sg It Hx ⟨2, rd, rs1, rs2, csr, imm, aq, rl⟩ = rpT (rrowAt 1).nm (psN X Sg It Hx ⟨2, rd, rs1, rs2, csr, imm, aq, rl⟩ 0) ⟨2, rd, rs1, rs2, csr, imm, aq, rl⟩ := by kernel_rfl
theorem rp2 (X Sg It Hx : Int → ByteArray) (rd rs1 rs2 csr imm : Int) (aq rl : Bool) : rpL X Sg It Hx ⟨3, rd, rs1, rs2, csr, imm, aq, rl⟩ = rpT (rrowAt 2).nm (psN X Sg It Hx ⟨3, rd, rs1, rs2, csr, imm, aq, rl⟩ 1) ⟨3, rd, rs1, rs2, csr, imm, aq, rl⟩ := by kernel_rfl
theorem rp3 (X Sg It Hx : Int → ByteArray) (rd rs1 rs2 csr imm : Int) (aq rl : Bool) : rpL X Sg It Hx ⟨4, rd, rs1, rs2, csr, imm, aq, rl⟩ = rpT (rrowAt 3).nm (psN X Sg It Hx ⟨4, rd, rs1, rs2, csr, imm, aq, rl⟩ 2) ⟨4, rd, rs1, rs2, csr, imm, aq, rl⟩ := by kernel_rfl
theorem rp4 (X Sg It Hx : Int → ByteArray) (rd rs1 rs2 csr imm : Int) (aq rl : Bool) : rpL X Sg It Hx ⟨5, rd, rs1, rs2, csr, imm, aq, rl⟩ = rpT (rrowAt 4).nm (psN X Sg It Hx ⟨5, rd, rs1, rs2, csr, imm, aq, rl⟩ 3) ⟨5, rd, rs1, rs2, csr, imm, aq, rl⟩ := by kernel_rfl
theorem rp5 (X Sg It Hx : Int → ByteArray) (rd rs1 rs2 csr imm : Int) (aq rl : Bool) : rpL X Sg It Hx ⟨6, rd, rs1, rs2, csr, imm, aq, rl⟩ = rpT (rrowAt 5).nm (psN X Sg It Hx ⟨6, rd, rs1, rs2, csr, imm, aq, rl⟩ 3) ⟨6, rd, rs1, rs2, csr, imm, aq, rl⟩ := by kernel_rfl
theorem rp6 (X Sg It Hx : Int → ByteArray) (rd rs1 rs2 csr imm : Int) (aq rl : Bool) : rpL X Sg It Hx ⟨7, rd, rs1, rs2, csr, imm, aq, rl⟩ = rpT (rrowAt 6).nm (psN X Sg It Hx ⟨7, rd, rs1, rs2, csr, imm, aq, rl⟩ 3) ⟨7, rd, rs1, rs2, csr, imm, aq, rl⟩ := by kernel_rfl
theorem rp7 (X Sg It Hx : Int → ByteArray) (rd rs1 rs2 csr imm : Int) (aq rl : Bool) : rpL X Sg It Hx ⟨8, rd, rs1, rs2, csr, imm, aq, rl⟩ = rpT (rrowAt 7).nm (psN X Sg It Hx ⟨8, rd, rs1, rs2, csr, imm, aq, rl⟩ 3) ⟨8, rd, rs1, rs2, csr, imm, aq, rl⟩ := by kernel_rfl
theorem rp8 (X Sg It Hx : Int → ByteArray) (rd rs1 rs2 csr imm : Int) (aq rl : Bool) : rpL X Sg It Hx ⟨9, rd, rs1, rs2, csr, imm, aq, rl⟩ = rpT (rrowAt 8).nm (psN X Sg It Hx ⟨9, rd, rs1, rs2, csr, imm, aq, rl⟩ 3) ⟨9, rd, rs1, rs2, csr, imm, aq, rl⟩ := by kernel_rfl
theorem rp9 (X Sg It Hx : Int → ByteArray) (rd rs1 rs2 csr imm : Int) (aq rl : Bool) : rpL X Sg It Hx ⟨10, rd, rs1, rs2, csr, imm, aq, rl⟩ = rpT (rrowAt 9).nm (psN X Sg It Hx ⟨10, rd, rs1, rs2, csr, imm, aq, rl⟩ 3) ⟨10, rd, rs1, rs2, csr, imm, aq, rl⟩ := by kernel_rfl
theorem rp10 (X Sg It Hx : Int → ByteArray) (rd rs1 rs2 csr imm : Int) (aq rl : Bool) : rpL X Sg It Hx ⟨11, rd, rs1, rs2, csr, imm, aq, rl⟩ = rpT (rrowAt 10).nm (psN X Sg It Hx ⟨11, rd, rs1, rs2, csr, imm, aq, rl⟩ 2) ⟨11, rd, rs1, rs2, csr, imm, aq, rl⟩ := by kernel_rfl
theorem rp11 (X Sg It Hx : Int → ByteArray) (rd rs1 rs2 csr imm : Int) (aq rl : Bool) : rpL X Sg It Hx ⟨12, rd, rs1, rs2, csr, imm, aq, rl⟩ = rpT (rrowAt 11).nm (psN X Sg It Hx ⟨12, rd, rs1, rs2, csr, imm, aq, rl⟩ 2) ⟨12, rd, rs1, rs2, csr, imm, aq, rl⟩ := by kernel_rfl
theorem rp12 (X Sg It Hx : Int → ByteArray) (rd rs1 rs2 csr imm : Int) (aq rl : Bool) : rpL X Sg It Hx ⟨13, rd, rs1, rs2, csr, imm, aq, rl⟩ = rpT (rrowAt 12).nm (psN X Sg It Hx ⟨13, rd, rs1, rs2, csr, imm, aq, rl⟩ 2) ⟨13, rd, rs1, rs2, csr, imm, aq, rl⟩ := by kernel_rfl
theorem rp13 (X Sg It Hx : Int → ByteArray) (rd rs1 rs2 csr imm : Int) (aq rl : Bool) : rpL X Sg It Hx ⟨14, rd, rs1, rs2, csr, imm, aq, rl⟩ = rpT (rrowAt 13).nm (psN X Sg It Hx ⟨14, rd, rs1, rs2, csr, imm, aq, rl⟩ 2) ⟨14, rd, rs1, rs2, csr, imm, aq, rl⟩ := by kernel_rfl
theorem rp14 (X Sg It Hx : Int → ByteArray) (rd rs1 rs2 csr imm : Int) (aq rl : Bool) : rpL X Sg It Hx ⟨15, rd, rs1, rs2, csr, imm, aq, rl⟩ = rpT (rrowAt 14).nm (psN X Sg It Hx ⟨15, rd, rs1, rs2, csr, imm, aq, rl⟩ 2) ⟨15, rd, rs1, rs2, csr, imm, aq, rl⟩ := by kernel_rfl
theorem rp15 (X Sg It Hx : Int → ByteArray) (rd rs1 rs2 csr imm : Int) (aq rl : Bool) : rpL X Sg It Hx ⟨16, rd, rs1, rs2, csr, imm, aq, rl⟩ = rpT (rrowAt 15).nm (psN X Sg It Hx ⟨16, rd, rs1, rs2, csr, imm, aq, rl⟩ 4) ⟨16, rd, rs1, rs2, csr, imm, aq, rl⟩ := by kernel_rfl
theorem rp16 (X Sg It Hx : Int → ByteArray) (rd rs1 rs2 csr imm : Int) (aq rl : Bool) : rpL X Sg It Hx ⟨17, rd, rs1, rs2, csr, imm, aq, rl⟩ = rpT (rrowAt 16).nm (psN X Sg It Hx ⟨17, rd, rs1, rs2, csr, imm, aq, rl⟩ 4) ⟨17, rd, rs1, rs2, csr, imm, aq, rl⟩ := by kernel_rfl
theorem rp17 (X Sg It Hx : Int → ByteArray) (rd rs1 rs2 csr imm : Int) (aq rl : Bool) : rpL X Sg It Hx ⟨18, rd, rs1, rs2, csr, imm, aq, rl⟩ = rpT (rrowAt 17).nm (psN X Sg It Hx ⟨18, rd, rs1, rs2, csr, imm, aq, rl⟩ 4) ⟨18, rd, rs1, rs2, csr, imm, aq, rl⟩ := by kernel_rfl
theorem rp18 (X Sg It Hx : Int → ByteArray) (rd rs1 rs2 csr imm : Int) (aq rl : Bool) : rpL X Sg It Hx ⟨19, rd, rs1, rs2, csr, imm, aq, rl⟩ = rpT (rrowAt 18).nm (psN X Sg It Hx ⟨19, rd, rs1, rs2, csr, imm, aq, rl⟩ 5) ⟨19, rd, rs1, rs2, csr, imm, aq, rl⟩ := by kernel_rfl
theorem rp19 (X Sg It Hx : Int → ByteArray) (rd rs1 rs2 csr imm : Int) (aq rl : Bool) : rpL X Sg It Hx ⟨20, rd, rs1, rs2, csr, imm, aq, rl⟩ = rpT (rrowAt 19).nm (psN X Sg It Hx ⟨20, rd, rs1, rs2, csr, imm, aq, rl⟩ 5) ⟨20, rd, rs1, rs2, csr, imm, aq, rl⟩ := by kernel_rfl
theorem rp20 (X Sg It Hx : Int → ByteArray) (rd rs1 rs2 csr imm : Int) (aq rl : Bool) : rpL X Sg It Hx ⟨21, rd, rs1, rs2, csr, imm, aq, rl⟩ = rpT (rrowAt 20).nm (psN X Sg It Hx ⟨21, rd, rs1, rs2, csr, imm, aq, rl⟩ 5) ⟨21, rd, rs1, rs2, csr, imm, aq, rl⟩ := by kernel_rfl
theorem rp21 (X Sg It Hx : Int → ByteArray) (rd rs1 rs2 csr imm : Int) (aq rl : Bool) : rpL X Sg It Hx ⟨22, rd, rs1, rs2, csr, imm, aq, rl⟩ = rpT (rrowAt 21).nm (psN X Sg It Hx ⟨22, rd, rs1, rs2, csr, imm, aq, rl⟩ 5) ⟨22, rd, rs1, rs2, csr, imm, aq, rl⟩ := by kernel_rfl
theorem rp22 (X Sg It Hx : Int → ByteArray) (rd rs1 rs2 csr imm : Int) (aq rl : Bool) : rpL X Sg It Hx ⟨23, rd, rs1, rs2, csr, imm, aq, rl⟩ = rpT (rrowAt 22).nm (psN X Sg It Hx ⟨23, rd, rs1, rs2, csr, imm, aq, rl⟩ 5) ⟨23, rd, rs1, rs2, csr, imm, aq, rl⟩ := by kernel_rfl
theorem rp23 (X Sg It Hx : Int → ByteArray) (rd rs1 rs2 csr imm : Int) (aq rl : Bool) : rpL X Sg It Hx ⟨24, rd, rs1, rs2, csr, imm, aq, rl⟩ = rpT (rrowAt 23).nm (psN X Sg It Hx ⟨24, rd, rs1, rs2, csr, imm, aq, rl⟩ 5) ⟨24, rd, rs1, rs2, csr, imm, aq, rl⟩ := by kernel_rfl
theorem rp24 (X Sg It Hx : Int → ByteArray) (rd rs1 rs2 csr imm : Int) (aq rl : Bool) : rpL X Sg It Hx ⟨25, rd, rs1, rs2, csr, imm, aq, rl⟩ = rpT (rrowAt 24).nm (psN X Sg It Hx ⟨25, rd, rs1, rs2, csr, imm, aq, rl⟩ 6) ⟨25, rd, rs1, rs2, csr, imm, aq, rl⟩ := by kernel_rfl
theorem rp25 (X Sg It Hx : Int → ByteArray) (rd rs1 rs2 csr imm : Int) (aq rl : Bool) : rpL X Sg It Hx ⟨26, rd, rs1, rs2, csr, imm, aq, rl⟩ = rpT (rrowAt 25).nm (psN X Sg It Hx ⟨26, rd, rs1, rs2, csr, imm, aq, rl⟩ 6) ⟨26, rd, rs1, rs2, csr, imm, aq, rl⟩ := by kernel_rfl
theorem rp26 (X Sg It Hx : Int → ByteArray) (rd rs1 rs2 csr imm : Int) (aq rl : Bool) : rpL X Sg It Hx ⟨27, rd, rs1, rs2, csr, imm, aq, rl⟩ = rpT (rrowAt 26).nm (psN X Sg It Hx ⟨27, rd, rs1, rs2, csr, imm, aq, rl⟩ 6) ⟨27, rd, rs1, rs2, csr, imm, aq, rl⟩ := by kernel_rfl
theorem rp27 (X Sg It Hx : Int → ByteArray) (rd rs1 rs2 csr imm : Int) (aq rl : Bool) : rpL X Sg It Hx ⟨28, rd, rs1, rs2, csr, imm, aq, rl⟩ = rpT (rrowAt 27).nm (psN X Sg It Hx ⟨28, rd, rs1, rs2, csr, imm, aq, rl⟩ 7) ⟨28, rd, rs1, rs2, csr, imm, aq, rl⟩ := by kernel_rfl
theorem rp28 (X Sg It Hx : Int → ByteArray) (rd rs1 rs2 csr imm : Int) (aq rl : Bool) : rpL X Sg It Hx ⟨29, rd, rs1, rs2, csr, imm, aq, rl⟩ = rpT (rrowAt 28).nm (psN X Sg It Hx ⟨29, rd, rs1, rs2, csr, imm, aq, rl⟩ 7) ⟨29, rd, rs1, rs2, csr, imm, aq, rl⟩ := by kernel_rfl
theorem rp29 (X Sg It Hx : Int → ByteArray) (rd rs1 rs2 csr imm : Int) (aq rl : Bool) : rpL X Sg It Hx ⟨30, rd, rs1, rs2, csr, imm, aq, rl⟩ = rpT (rrowAt 29).nm (psN X Sg It Hx ⟨30, rd, rs1, rs2, csr, imm, aq, rl⟩ 7) ⟨30, rd, rs1, rs2, csr, imm, aq, rl⟩ := by kernel_rfl
theorem rp30 (X Sg It Hx : Int → ByteArray) (rd rs1 rs2 csr imm : Int) (aq rl : Bool) : rpL X Sg It Hx ⟨31, rd, rs1, rs2, csr, imm, aq, rl⟩ = rpT (rrowAt 30).nm (psN X Sg It Hx ⟨31, rd, rs1, rs2, csr, imm, aq, rl⟩ 7) ⟨31, rd, rs1, rs2, csr, imm, aq, rl⟩ := by kernel_rfl
theorem rp31 (X Sg It Hx : Int → ByteArray) (rd rs1 rs2 csr imm : Int) (aq rl : Bool) : rpL X Sg It Hx ⟨32, rd, rs1, rs2, csr, imm, aq, rl⟩ = rpT (rrowAt 31).nm (psN X Sg It Hx ⟨32, rd, rs1, rs2, csr, imm, aq, rl⟩ 7) ⟨32, rd, rs1, rs2, csr, imm, aq, rl⟩ := by kernel_rfl
theorem rp32 (X Sg It Hx : Int → ByteArray) (rd rs1 rs2 csr imm : Int) (aq rl : Bool) : rpL X Sg It Hx ⟨33, rd, rs1, rs2, csr, imm, aq, rl⟩ = rpT (rrowAt 32).nm (psN X Sg It Hx ⟨33, rd, rs1, rs2, csr, imm, aq, rl⟩ 7) ⟨33, rd, rs1, rs2, csr, imm, aq, rl⟩ := by kernel_rfl
theorem rp33 (X Sg It Hx : Int → ByteArray) (rd rs1 rs2 csr imm : Int) (aq rl : Bool) : rpL X Sg It Hx ⟨34, rd, rs1, rs2, csr, imm, aq, rl⟩ = rpT (rrowAt 33).nm (psN X Sg It Hx ⟨34, rd, rs1, rs2, csr, imm, aq, rl⟩ 7) ⟨34, rd, rs1, rs2, csr, imm, aq, rl⟩ := by kernel_rfl
theorem rp34 (X Sg It Hx : Int → ByteArray) (rd rs1 rs2 csr imm : Int) (aq rl : Bool) : rpL X Sg It Hx ⟨35, rd, rs1, rs2, csr, imm, aq, rl⟩ = rpT (rrowAt 34).nm (psN X Sg It Hx ⟨35, rd, rs1, rs2, csr, imm, aq, rl⟩ 7) ⟨35, rd, rs1, rs2, csr, imm, aq, rl⟩ := by kernel_rfl
theorem rp35 (X Sg It Hx : Int → ByteArray) (rd rs1 rs2 csr imm : Int) (aq rl : Bool) : rpL X Sg It Hx ⟨36, rd, rs1, rs2, csr, imm, aq, rl⟩ = rpT (rrowAt 35).nm (psN X Sg It Hx ⟨36, rd, rs1, rs2, csr, imm, aq, rl⟩ 7) ⟨36, rd, rs1, rs2, csr, imm, aq, rl⟩ := by kernel_rfl
theorem rp36 (X Sg It Hx : Int → ByteArray) (rd rs1 rs2 csr imm : Int) (aq rl : Bool) : rpL X Sg It Hx ⟨37, rd, rs1, rs2, csr, imm, aq, rl⟩ = rpT (rrowAt 36).nm (psN X Sg It Hx ⟨37, rd, rs1, rs2, csr, imm, aq, rl⟩ 7) ⟨37, rd, rs1, rs2, csr, imm, aq, rl⟩ := by kernel_rfl
theorem rp37 (X Sg It Hx : Int → ByteArray) (rd rs1 rs2 csr imm : Int) (aq rl : Bool) : rpL X Sg It Hx ⟨38, rd, rs1, rs2, csr, imm, aq, rl⟩ = rpT (rrowAt 37).nm (psN X Sg It Hx ⟨38, rd, rs1, rs2, csr, imm, aq, rl⟩ 8) ⟨38, rd, rs1, rs2, csr, imm, aq, rl⟩ := by kernel_rfl
theorem rp38 (X Sg It Hx : Int → ByteArray) (rd rs1 rs2 csr imm : Int) (aq rl : Bool) : rpL X Sg It Hx ⟨39, rd, rs1, rs2, csr, imm, aq, rl⟩ = rpT (rrowAt 38).nm (psN X Sg It Hx ⟨39, rd, rs1, rs2, csr, imm, aq, rl⟩ 9) ⟨39, rd, rs1, rs2, csr, imm, aq, rl⟩ := by kernel_rfl
theorem rp39 (X Sg It Hx : Int → ByteArray) (rd rs1 rs2 csr imm : Int) (aq rl : Bool) : rpL X Sg It Hx ⟨40, rd, rs1, rs2, csr, imm, aq, rl⟩ = rpT (rrowAt 39).nm (psN X Sg It Hx ⟨40, rd, rs1, rs2, csr, imm, aq, rl⟩ 9) ⟨40, rd, rs1, rs2, csr, imm, aq, rl⟩ := by kernel_rfl
theorem rp40 (X Sg It Hx : Int → ByteArray) (rd rs1 rs2 csr imm : Int) (aq rl : Bool) : rpL X Sg It Hx ⟨41, rd, rs1, rs2, csr, imm, aq, rl⟩ = rpT (rrowAt 40).nm (psN X Sg It Hx ⟨41, rd, rs1, rs2, csr, imm, aq, rl⟩ 9) ⟨41, rd, rs1, rs2, csr, imm, aq, rl⟩ := by kernel_rfl
theorem rp41 (X Sg It Hx : Int → ByteArray) (rd rs1 rs2 csr imm : Int) (aq rl : Bool) : rpL X Sg It Hx ⟨42, rd, rs1, rs2, csr, imm, aq, rl⟩ = rpT (rrowAt 41).nm (psN X Sg It Hx ⟨42, rd, rs1, rs2, csr, imm, aq, rl⟩ 9) ⟨42, rd, rs1, rs2, csr, imm, aq, rl⟩ := by kernel_rfl
theorem rp42 (X Sg It Hx : Int → ByteArray) (rd rs1 rs2 csr imm : Int) (aq rl : Bool) : rpL X Sg It Hx ⟨43, rd, rs1, rs2, csr, imm, aq, rl⟩ = rpT (rrowAt 42).nm (psN X Sg It Hx ⟨43, rd, rs1, rs2, csr, imm, aq, rl⟩ 9) ⟨43, rd, rs1, rs2, csr, imm, aq, rl⟩ := by kernel_rfl
theorem rp43 (X Sg It Hx : Int → ByteArray) (rd rs1 rs2 csr imm : Int) (aq rl : Bool) : rpL X Sg It Hx ⟨44, rd, rs1, rs2, csr, imm, aq, rl⟩ = rpT (rrowAt 43).nm (psN X Sg It Hx ⟨44, rd, rs1, rs2, csr, imm, aq, rl⟩ 10) ⟨44, rd, rs1, rs2, csr, imm, aq, rl⟩ := by kernel_rfl
theorem rp44 (X Sg It Hx : Int → ByteArray) (rd rs1 rs2 csr imm : Int) (aq rl : Bool) : rpL X Sg It Hx ⟨45, rd, rs1, rs2, csr, imm, aq, rl⟩ = rpT (rrowAt 44).nm (psN X Sg It Hx ⟨45, rd, rs1, rs2, csr, imm, aq, rl⟩ 11) ⟨45, rd, rs1, rs2, csr, imm, aq, rl⟩ := by kernel_rfl
theorem rp45 (X Sg It Hx : Int → ByteArray) (rd rs1 rs2 csr imm : Int) (aq rl : Bool) : rpL X Sg It Hx ⟨46, rd, rs1, rs2, csr, imm, aq, rl⟩ = rpT (rrowAt 45).nm (psN X Sg It Hx ⟨46, rd, rs1, rs2, csr, imm, aq, rl⟩ 11) ⟨46, rd, rs1, rs2, csr, imm, aq, rl⟩ := by kernel_rfl
theorem rp46 (X Sg It Hx : Int → ByteArray) (rd rs1 rs2 csr imm : Int) (aq rl : Bool) : rpL X Sg It Hx ⟨47, rd, rs1, rs2, csr, imm, aq, rl⟩ = rpT (rrowAt 46).nm (psN X Sg It Hx ⟨47, rd, rs1, rs2, csr, imm, aq, rl⟩ 11) ⟨47, rd, rs1, rs2, csr, imm, aq, rl⟩ := by kernel_rfl
theorem rp47 (X Sg It Hx : Int → ByteArray) (rd rs1 rs2 csr imm : Int) (aq rl : Bool) : rpL X Sg It Hx ⟨48, rd, rs1, rs2, csr, imm, aq, rl⟩ = rpT (rrowAt 47).nm (psN X Sg It Hx ⟨48, rd, rs1, rs2, csr, imm, aq, rl⟩ 12) ⟨48, rd, rs1, rs2, csr, imm, aq, rl⟩ := by kernel_rfl
theorem rp48 (X Sg It Hx : Int → ByteArray) (rd rs1 rs2 csr imm : Int) (aq rl : Bool) : rpL X Sg It Hx ⟨49, rd, rs1, rs2, csr, imm, aq, rl⟩ = rpT (rrowAt 48).nm (psN X Sg It Hx ⟨49, rd, rs1, rs2, csr, imm, aq, rl⟩ 12) ⟨49, rd, rs1, rs2, csr, imm, aq, rl⟩ := by kernel_rfl
theorem rp49 (X Sg It Hx : Int → ByteArray) (rd rs1 rs2 csr imm : Int) (aq rl : Bool) : rpL X Sg It Hx ⟨50, rd, rs1, rs2, csr, imm, aq, rl⟩ = rpT (rrowAt 49).nm (psN X Sg It Hx ⟨50, rd, rs1, rs2, csr, imm, aq, rl⟩ 12) ⟨50, rd, rs1, rs2, csr, imm, aq, rl⟩ := by kernel_rfl
theorem rp50 (X Sg It Hx : Int → ByteArray) (rd rs1 rs2 csr imm : Int) (aq rl : Bool) : rpL X Sg It Hx ⟨51, rd, rs1, rs2, csr, imm, aq, rl⟩ = rpT (rrowAt 50).nm (psN X Sg It Hx ⟨51, rd, rs1, rs2, csr, imm, aq, rl⟩ 7) ⟨51, rd, rs1, rs2, csr, imm, aq, rl⟩ := by kernel_rfl
theorem rp51 (X Sg It Hx : Int → ByteArray) (rd rs1 rs2 csr imm : Int) (aq rl : Bool) : rpL X Sg It Hx ⟨52, rd, rs1, rs2, csr, imm, aq, rl⟩ = rpT (rrowAt 51).nm (psN X Sg It Hx ⟨52, rd, rs1, rs2, csr, imm, aq, rl⟩ 7) ⟨52, rd, rs1, rs2, csr, imm, aq, rl⟩ := by kernel_rfl
theorem rp52 (X Sg It Hx : Int → ByteArray) (rd rs1 rs2 csr imm : Int) (aq rl : Bool) : rpL X Sg It Hx ⟨53, rd, rs1, rs2, csr, imm, aq, rl⟩ = rpT (rrowAt 52).nm (psN X Sg It Hx ⟨53, rd, rs1, rs2, csr, imm, aq, rl⟩ 7) ⟨53, rd, rs1, rs2, csr, imm, aq, rl⟩ := by kernel_rfl
theorem rp53 (X Sg It Hx : Int → ByteArray) (rd rs1 rs2 csr imm : Int) (aq rl : Bool) : rpL X Sg It Hx ⟨54, rd, rs1, rs2, csr, imm, aq, rl⟩ = rpT (rrowAt 53).nm (psN X Sg It Hx ⟨54, rd, rs1, rs2, csr, imm, aq, rl⟩ 7) ⟨54, rd, rs1, rs2, csr, imm, aq, rl⟩ := by kernel_rfl
theorem rp54 (X Sg It Hx : Int → ByteArray) (rd rs1 rs2 csr imm : Int) (aq rl : Bool) : rpL X Sg It Hx ⟨55, rd, rs1, rs2, csr, imm, aq, rl⟩ = rpT (rrowAt 54).nm (psN X Sg It Hx ⟨55, rd, rs1, rs2, csr, imm, aq, rl⟩ 7) ⟨55, rd, rs1, rs2, csr, imm, aq, rl⟩ := by kernel_rfl
theorem rp55 (X Sg It Hx : Int → ByteArray) (rd rs1 rs2 csr imm : Int) (aq rl : Bool) : rpL X Sg It Hx ⟨56, rd, rs1, rs2, csr, imm, aq, rl⟩ = rpT (rrowAt 55).nm (psN X Sg It Hx ⟨56, rd, rs1, rs2, csr, imm, aq, rl⟩ 7) ⟨56, rd, rs1, rs2, csr, imm, aq, rl⟩ := by kernel_rfl
theorem rp56 (X Sg It Hx : Int → ByteArray) (rd rs1 rs2 csr imm : Int) (aq rl : Bool) : rpL X Sg It Hx ⟨57, rd, rs1, rs2, csr, imm, aq, rl⟩ = rpT (rrowAt 56).nm (psN X Sg It Hx ⟨57, rd, rs1, rs2, csr, imm, aq, rl⟩ 7) ⟨57, rd, rs1, rs2, csr, imm, aq, rl⟩ := by kernel_rfl
theorem rp57 (X Sg It Hx : Int → ByteArray) (rd rs1 rs2 csr imm : Int) (aq rl : Bool) : rpL X Sg It Hx ⟨58, rd, rs1, rs2, csr, imm, aq, rl⟩ = rpT (rrowAt 57).nm (psN X Sg It Hx ⟨58, rd, rs1, rs2, csr, imm, aq, rl⟩ 7) ⟨58, rd, rs1, rs2, csr, imm, aq, rl⟩ := by kernel_rfl
theorem rp58 (X Sg It Hx : Int → ByteArray) (rd rs1 rs2 csr imm : Int) (aq rl : Bool) : rpL X Sg It Hx ⟨59, rd, rs1, rs2, csr, imm, aq, rl⟩ = rpT (rrowAt 58).nm (psN X Sg It Hx ⟨59, rd, rs1, rs2, csr, imm, aq, rl⟩ 13) ⟨59, rd, rs1, rs2, csr, imm, aq, rl⟩ := by kernel_rfl
theorem rp59 (X Sg It Hx : Int → ByteArray) (rd rs1 rs2 csr imm : Int) (aq rl : Bool) : rpL X Sg It Hx ⟨60, rd, rs1, rs2, csr, imm, aq, rl⟩ = rpT (rrowAt 59).nm (psN X Sg It Hx ⟨60, rd, rs1, rs2, csr, imm, aq, rl⟩ 14) ⟨60, rd, rs1, rs2, csr, imm, aq, rl⟩ := by kernel_rfl
theorem rp60 (X Sg It Hx : Int → ByteArray) (rd rs1 rs2 csr imm : Int) (aq rl : Bool) : rpL X Sg It Hx ⟨61, rd, rs1, rs2, csr, imm, aq, rl⟩ = rpT (rrowAt 60).nm (psN X Sg It Hx ⟨61, rd, rs1, rs2, csr, imm, aq, rl⟩ 14) ⟨61, rd, rs1, rs2, csr, imm, aq, rl⟩ := by kernel_rfl
theorem rp61 (X Sg It Hx : Int → ByteArray) (rd rs1 rs2 csr imm : Int) (aq rl : Bool) : rpL X Sg It Hx ⟨62, rd, rs1, rs2, csr, imm, aq, rl⟩ = rpT (rrowAt 61).nm (psN X Sg It Hx ⟨62, rd, rs1, rs2, csr, imm, aq, rl⟩ 14) ⟨62, rd, rs1, rs2, csr, imm, aq, rl⟩ := by kernel_rfl
theorem rp62 (X Sg It Hx : Int → ByteArray) (rd rs1 rs2 csr imm : Int) (aq rl : Bool) : rpL X Sg It Hx ⟨63, rd, rs1, rs2, csr, imm, aq, rl⟩ = rpT (rrowAt 62).nm (psN X Sg It Hx ⟨63, rd, rs1, rs2, csr, imm, aq, rl⟩ 14) ⟨63, rd, rs1, rs2, csr, imm, aq, rl⟩ := by kernel_rfl
theorem rp63 (X Sg It Hx : Int → ByteArray) (rd rs1 rs2 csr imm : Int) (aq rl : Bool) : rpL X Sg It Hx ⟨64, rd, rs1, rs2, csr, imm, aq, rl⟩ = rpT (rrowAt 63).nm (psN X Sg It Hx ⟨64, rd, rs1, rs2, csr, imm, aq, rl⟩ 14) ⟨64, rd, rs1, rs2, csr, imm, aq, rl⟩ := by kernel_rfl
theorem rp64 (X Sg It Hx : Int → ByteArray) (rd rs1 rs2 csr imm : Int) (aq rl : Bool) : rpL X Sg It Hx ⟨65, rd, rs1, rs2, csr, imm, aq, rl⟩ = rpT (rrowAt 64).nm (psN X Sg It Hx ⟨65, rd, rs1, rs2, csr, imm, aq, rl⟩ 14) ⟨65, rd, rs1, rs2, csr, imm, aq, rl⟩ := by kernel_rfl
theorem rp65 (X Sg It Hx : Int → ByteArray) (rd rs1 rs2 csr imm : Int) (aq rl : Bool) : rpL X Sg It Hx ⟨66, rd, rs1, rs2, csr, imm, aq, rl⟩ = rpT (rrowAt 65).nm (psN X Sg It Hx ⟨66, rd, rs1, rs2, csr, imm, aq, rl⟩ 14) ⟨66, rd, rs1, rs2, csr, imm, aq, rl⟩ := by kernel_rfl
theorem rp66 (X Sg It Hx : Int → ByteArray) (rd rs1 rs2 csr imm : Int) (aq rl : Bool) : rpL X Sg It Hx ⟨67, rd, rs1, rs2, csr, imm, aq, rl⟩ = rpT (rrowAt 66).nm (psN X Sg It Hx ⟨67, rd, rs1, rs2, csr, imm, aq, rl⟩ 14) ⟨67, rd, rs1, rs2, csr, imm, aq, rl⟩ := by kernel_rfl
theorem rp67 (X Sg It Hx : Int → ByteArray) (rd rs1 rs2 csr imm : Int) (aq rl : Bool) : rpL X Sg It Hx ⟨68, rd, rs1, rs2, csr, imm, aq, rl⟩ = rpT (rrowAt 67).nm (psN X Sg It Hx ⟨68, rd, rs1, rs2, csr, imm, aq, rl⟩ 14) ⟨68, rd, rs1, rs2, csr, imm, aq, rl⟩ := by kernel_rfl
theorem rp68 (X Sg It Hx : Int → ByteArray) (rd rs1 rs2 csr imm : Int) (aq rl : Bool) : rpL X Sg It Hx ⟨69, rd, rs1, rs2, csr, imm, aq, rl⟩ = rpT (rrowAt 68).nm (psN X Sg It Hx ⟨69, rd, rs1, rs2, csr, imm, aq, rl⟩ 14) ⟨69, rd, rs1, rs2, csr, imm, aq, rl⟩ := by kernel_rfl
theorem rpAll (X Sg It Hx : Int → ByteArray) (rd rs1 rs2 csr imm : Int) (aq rl : Bool) : ∀ k : Nat, k < 69 → rpL X Sg It Hx ⟨(k : Int) + 1, rd, rs1, rs2, csr, imm, aq, rl⟩ = rpT (rrowAt k).nm (psN X Sg It Hx ⟨(k : Int) + 1, rd, rs1, rs2, csr, imm, aq, rl⟩ (sortF ((k : Int) + 1))) ⟨(k : Int) + 1, rd, rs1, rs2, csr, imm, aq, rl⟩
  | 0, _ => rp0 X Sg It Hx rd rs1 rs2 csr imm aq rl
  | 1, _ => rp1 X Sg It Hx rd rs1 rs2 csr imm aq rl
  | 2, _ => rp2 X Sg It Hx rd rs1 rs2 csr imm aq rl
  | 3, _ => rp3 X Sg It Hx rd rs1 rs2 csr imm aq rl
  | 4, _ => rp4 X Sg It Hx rd rs1 rs2 csr imm aq rl
  | 5, _ => rp5 X Sg It Hx rd rs1 rs2 csr imm aq rl
  | 6, _ => rp6 X Sg It Hx rd rs1 rs2 csr imm aq rl
  | 7, _ => rp7 X Sg It Hx rd rs1 rs2 csr imm aq rl
  | 8, _ => rp8 X Sg It Hx rd rs1 rs2 csr imm aq rl
  | 9, _ => rp9 X Sg It Hx rd rs1 rs2 csr imm aq rl
  | 10, _ => rp10 X Sg It Hx rd rs1 rs2 csr imm aq rl
  | 11, _ => rp11 X Sg It Hx rd rs1 rs2 csr imm aq rl
  | 12, _ => rp12 X Sg It Hx rd rs1 rs2 csr imm aq rl
  | 13, _ => rp13 X Sg It Hx rd rs1 rs2 csr imm aq rl
  | 14, _ => rp14 X Sg It Hx rd rs1 rs2 csr imm aq rl
  | 15, _ => rp15 X Sg It Hx rd rs1 rs2 csr imm aq rl
  | 16, _ => rp16 X Sg It Hx rd rs1 rs2 csr imm aq rl
  | 17, _ => rp17 X Sg It Hx rd rs1 rs2 csr imm aq rl
  | 18, _ => rp18 X Sg It Hx rd rs1 rs2 csr imm aq rl
  | 19, _ => rp19 X Sg It Hx rd rs1 rs2 csr imm aq rl
  | 20, _ => rp20 X Sg It Hx rd rs1 rs2 csr imm aq rl
  | 21, _ => rp21 X Sg It Hx rd rs1 rs2 csr imm aq rl
  | 22, _ => rp22 X Sg It Hx rd rs1 rs2 csr imm aq rl
  | 23, _ => rp23 X Sg It Hx rd rs1 rs2 csr imm aq rl
  | 24, _ => rp24 X Sg It Hx rd rs1 rs2 csr imm aq rl
  | 25, _ => rp25 X Sg It Hx rd rs1 rs2 csr imm aq rl
  | 26, _ => rp26 X Sg It Hx rd rs1 rs2 csr imm aq rl
  | 27, _ => rp27 X Sg It Hx rd rs1 rs2 csr imm aq rl
  | 28, _ => rp28 X Sg It Hx rd rs1 rs2 csr imm aq rl
  | 29, _ => rp29 X Sg It Hx rd rs1 rs2 csr imm aq rl
  | 30, _ => rp30 X Sg It Hx rd rs1 rs2 csr imm aq rl
  | 31, _ => rp31 X Sg It Hx rd rs1 rs2 csr imm aq rl
  | 32, _ => rp32 X Sg It Hx rd rs1 rs2 csr imm aq rl
  | 33, _ => rp33 X Sg It Hx rd rs1 rs2 csr imm aq rl
  | 34, _ => rp34 X Sg It Hx rd rs1 rs2 csr imm aq rl
  | 35, _ => rp35 X Sg It Hx rd rs1 rs2 csr imm aq rl
  | 36, _ => rp36 X Sg It Hx rd rs1 rs2 csr imm aq rl
  | 37, _ => rp37 X Sg It Hx rd rs1 rs2 csr imm aq rl
  | 38, _ => rp38 X Sg It Hx rd rs1 rs2 csr imm aq rl
  | 39, _ => rp39 X Sg It Hx rd rs1 rs2 csr imm aq rl
  | 40, _ => rp40 X Sg It Hx rd rs1 rs2 csr imm aq rl
  | 41, _ => rp41 X Sg It Hx rd rs1 rs2 csr imm aq rl
  | 42, _ => rp42 X Sg It Hx rd rs1 rs2 csr imm aq rl
  | 43, _ => rp43 X Sg It Hx rd rs1 rs2 csr imm aq rl
  | 44, _ => rp44 X Sg It Hx rd rs1 rs2 csr imm aq rl
  | 45, _ => rp45 X Sg It Hx rd rs1 rs2 csr imm aq rl
  | 46, _ => rp46 X Sg It Hx rd rs1 rs2 csr imm aq rl
  | 47, _ => rp47 X Sg It Hx rd rs1 rs2 csr imm aq rl
  | 48, _ => rp48 X Sg It Hx rd rs1 rs2 csr imm aq rl
  | 49, _ => rp49 X Sg It Hx rd rs1 rs2 csr imm aq rl
  | 50, _ => rp50 X Sg It Hx rd rs1 rs2 csr imm aq rl
  | 51, _ => rp51 X Sg It Hx rd rs1 rs2 csr imm aq rl
  | 52, _ => rp52 X Sg It Hx rd rs1 rs2 csr imm aq rl
  | 53, _ => rp53 X Sg It Hx rd rs1 rs2 csr imm aq rl
  | 54, _ => rp54 X Sg It Hx rd rs1 rs2 csr imm aq rl
  | 55, _ => rp55 X Sg It Hx rd rs1 rs2 csr imm aq rl
  | 56, _ => rp56 X Sg It Hx rd rs1 rs2 csr imm aq rl
  | 57, _ => rp57 X Sg It Hx rd rs1 rs2 csr imm aq rl
  | 58, _ => rp58 X Sg It Hx rd rs1 rs2 csr imm aq rl
  | 59, _ => rp59 X Sg It Hx rd rs1 rs2 csr imm aq rl
  | 60, _ => rp60 X Sg It Hx rd rs1 rs2 csr imm aq rl
  | 61, _ => rp61 X Sg It Hx rd rs1 rs2 csr imm aq rl
  | 62, _ => rp62 X Sg It Hx rd rs1 rs2 csr imm aq rl
  | 63, _ => rp63 X Sg It Hx rd rs1 rs2 csr imm aq rl
  | 64, _ => rp64 X Sg It Hx rd rs1 rs2 csr imm aq rl
  | 65, _ => rp65 X Sg It Hx rd rs1 rs2 csr imm aq rl
  | 66, _ => rp66 X Sg It Hx rd rs1 rs2 csr imm aq rl
  | 67, _ => rp67 X Sg It Hx rd rs1 rs2 csr imm aq rl
  | 68, _ => rp68 X Sg It Hx rd rs1 rs2 csr imm aq rl
  | n + 69, h => absurd h (by omega)
end Go.Proofs.YtgkicojmgokinaaGreatDoor.Ab
