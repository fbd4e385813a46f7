/- Trimmed: AsmEncode -/
import Derived.Test.YtgkicojmgokinaaGreatDoorAsmEnc
namespace Go.Proofs.YtgkicojmgokinaaGreatDoor.Ab
open Go Go.RowKit
set_option linter.unusedVariables false
set_option linter.unusedSimpArgs false
set_option maxRecDepth 100000
structure Inst where
  op : Int
  rd : Int
  rs1 : Int
  rs2 : Int
  csr : Int
  imm : Int
  aq : Bool
  rl : Bool
  deriving DecidableEq
def instC (i : Inst) : List Value := [.int .i64 i.op, .int .i64 i.rd, .int .i64 i.rs1, .int .i64 i.rs2, .int .i64 i.csr, .int .u32 i.imm, .bool i.aq, .bool i.rl]
def instV (i : Inst) : Value := .agg ⟨instC i⟩
def noInst : Inst := ⟨0, 0, 0, 0, 0, 0, false, false⟩
def opcL : List Int := [55, 23, 111, 103, 99, 99, 99, 99, 99, 99, 3, 3, 3, 3, 3, 35, 35, 35, 19, 19, 19, 19, 19, 19, 19, 19, 19, 51, 51, 51, 51, 51, 51, 51, 51, 51, 51, 15, 4111, 115, 1048691, 807403635, 273678451, 115, 115, 115, 115, 115, 115, 115, 51, 51, 51, 51, 51, 51, 51, 51, 47, 47, 47, 47, 47, 47, 47, 47, 47, 47, 47]
def f3L : List Int := [0, 0, 0, 0, 0, 1, 4, 5, 6, 7, 0, 1, 2, 4, 5, 0, 1, 2, 0, 2, 3, 4, 6, 7, 1, 5, 5, 0, 0, 1, 2, 3, 4, 5, 5, 6, 7, 0, 0, 0, 0, 0, 0, 0, 1, 2, 3, 5, 6, 7, 0, 1, 2, 3, 4, 5, 6, 7, 2, 2, 2, 2, 2, 2, 2, 2, 2, 2, 2]
def f7L : List Int := [0, 0, 0, 0, 0, 0, 0, 0, 0, 0, 0, 0, 0, 0, 0, 0, 0, 0, 0, 0, 0, 0, 0, 0, 0, 0, 32, 0, 32, 0, 0, 0, 0, 0, 32, 0, 0, 0, 0, 0, 0, 0, 0, 9, 0, 0, 0, 0, 0, 0, 1, 1, 1, 1, 1, 1, 1, 1, 2, 3, 1, 0, 4, 12, 8, 16, 20, 24, 28]
def encErr (g : Nat) : Value := .tuple #[.int .u32 0, errV g]
def encOk (w : Int) : Value := .tuple #[.int .u32 w, .nilIface]
def rng (n : Int) (k : Option Value) : Option Value := bif decide (n < 0) then some (encErr 2) else bif decide (n > 31) then some (encErr 2) else k
def ck (f : Bool) (c : Bool) (k : Option Value) : Option Value := bif f then (bif c then some (encErr 3) else k) else k
def isN (fm : Nat) : Bool := Nat.beq fm 8
def isC (fm : Nat) : Bool := Nat.beq fm 10 || Nat.beq fm 11
def isA (fm : Nat) : Bool := Nat.beq fm 12 || Nat.beq fm 13
def encT (J : Int → Int → Int → Int → Int → Int → Int) (fm : Nat) (rdU rs1U rs2U imU : Bool) (opc f3 f7 : Int) (rd rs1 rs2 csr imm : Int) (aq rl : Bool) (w : Int) : Option Value :=
  ck (!rdU) (rd != 0) <| ck (!rs1U) (rs1 != 0) <| ck (!rs2U) (rs2 != 0) <| ck (!imU) (imm != 0) <| ck (!isC fm) (csr != 0) <| ck (!isA fm) aq <| ck (!isA fm) rl <|
    bif isN fm then some (encOk opc) else
    let fin := fun f7' => some (encOk (bits .or .u32 (bits .or .u32 w (IntKind.u32.wrap (IntKind.u32.wrap csr * 1048576))) (J opc (IntKind.u32.wrap rd) f3 (IntKind.u32.wrap rs1) (IntKind.u32.wrap rs2) f7')))
    bif isA fm then (bif aq then (bif rl then fin (bits .or .u32 (bits .or .u32 (f7 * 4) 2) 1) else fin (bits .or .u32 (f7 * 4) 2)) else (bif rl then fin (bits .or .u32 (f7 * 4) 1) else fin (f7 * 4))) else fin f7
def encK (Ly : Int → Int → Int × Bool) (J : Int → Int → Int → Int → Int → Int → Int) (fm : Nat) (rdU rs1U rs2U imU : Bool) (opc f3 f7 : Int) (rd rs1 rs2 csr imm : Int) (aq rl : Bool) : Option Value :=
  rng rd <| rng rs1 <| rng rs2 <| bif decide (csr < 0) then some (encErr 2) else bif decide (csr > 4095) then some (encErr 2) else
    bif imU then (bif (Ly (fm : Int) imm).2 then encT J fm rdU rs1U rs2U imU opc f3 f7 rd rs1 rs2 csr imm aq rl (Ly (fm : Int) imm).1 else some (encErr 2)) else encT J fm rdU rs1U rs2U imU opc f3 f7 rd rs1 rs2 csr imm aq rl 0
noncomputable def encΦ (Ly : Int → Int → Int × Bool) (J : Int → Int → Int → Int → Int → Int → Int) : Oracle := fun lo f args H => match f with
  | 69 => match args with
    | [] => some [(true, gs 7 litCells 69, H)]
    | _ => none
  | 54 => match args with
    | [.agg ⟨[.int .i64 op, .string s, .int .i64 fm, .int .u32 opc, .int .u32 f3, .int .u32 f7, .int .i64 kd]⟩] => some [(isForm fm, usesV fm, H)]
    | _ => none
  | 55 => match args with
    | [.agg ⟨[.int .i64 op, .string s, .int .i64 fm, .int .u32 opc, .int .u32 f3, .int .u32 f7, .int .i64 kd]⟩, .int .u32 x] => some [(hasImm fm, .tuple #[.int .u32 (Ly fm x).1, .bool (Ly fm x).2], H)]
    | _ => none
  | 56 => match args with
    | [.agg ⟨[.int .u32 a, .int .u32 b, .int .u32 c, .int .u32 d, .int .u32 e, .int .u32 f]⟩] => some [(true, .int .u32 (J a b c d e f), H)]
    | _ => none
  | _ => none
theorem encΦ_ok  : CtxOK Tryz.prog (ctx (encΦ (rlayF layV) joinV)) := ctxOK fun lo f args H l v H' h hm => by
  unfold encΦ at h
  split at h
  · split at h
    · cases h
      simp only [List.mem_cons, List.not_mem_nil, or_false, Prod.mk.injEq] at hm
      obtain ⟨hc, rfl, rfl⟩ := hm
      exact ⟨rowsOK.call (fun a h => by cases h) lo H', rfl⟩
    · cases h
  · split at h
    · cases h
      simp only [List.mem_cons, List.not_mem_nil, or_false, Prod.mk.injEq] at hm
      obtain ⟨hc, rfl, rfl⟩ := hm
      exact ⟨(usesOK _ _ _ _ _ _ hc.symm).call (gh_plains rfl) lo H', rfl⟩
    · cases h
  · split at h
    · cases h
      simp only [List.mem_cons, List.not_mem_nil, or_false, Prod.mk.injEq] at hm
      obtain ⟨hc, rfl, rfl⟩ := hm
      exact ⟨(rlayOK _ _ _ _ _ _ hc.symm).call (gh_plains rfl) lo H', rfl⟩
    · cases h
  · split at h
    · cases h
      simp only [List.mem_cons, List.not_mem_nil, or_false, Prod.mk.injEq] at hm
      obtain ⟨hc, rfl, rfl⟩ := hm
      exact ⟨(joinWOK _ _ _ _ _ _).call (gh_plains rfl) lo H', rfl⟩
    · cases h
  · cases h
theorem enc0 (Ly : Int → Int → Int × Bool) (J : Int → Int → Int → Int → Int → Int → Int) (rd rs1 rs2 csr imm : Int) (aq rl : Bool) : callK (ctx (encΦ Ly J)) 20 0 25 [instV ⟨1, rd, rs1, rs2, csr, imm, aq, rl⟩] [] (fun v _ => some v) = encK Ly J 0 true false false true 55 0 0 rd rs1 rs2 csr imm aq rl := by kernel_rfl
theorem enc1 (Ly : Int → Int → Int × Bool) (J : Int → Int → Int → Int → Int → Int → Int) (rd rs1 rs2 csr imm : Int) (aq rl : Bool) : callK (ctx (encΦ Ly J)) 20 0 25 [instV ⟨2, rd, rs1, rs2, csr, imm, aq, rl⟩] [] (fun v _ => some v) = encK Ly J 0 true false false true 23 0 0 rd rs1 rs2 csr imm aq rl := by kernel_rfl
theorem enc2 (Ly : Int → Int → Int × Bool) (J : Int → Int → Int → Int → Int → Int → Int) (rd rs1 rs2 csr imm : Int) (aq rl : Bool) : callK (ctx (encΦ Ly J)) 20 0 25 [instV ⟨3, rd, rs1, rs2, csr, imm, aq, rl⟩] [] (fun v _ => some v) = encK Ly J 1 true false false true 111 0 0 rd rs1 rs2 csr imm aq rl := by kernel_rfl
theorem enc3 (Ly : Int → Int → Int × Bool) (J : Int → Int → Int → Int → Int → Int → Int) (rd rs1 rs2 csr imm : Int) (aq rl : Bool) : callK (ctx (encΦ Ly J)) 20 0 25 [instV ⟨4, rd, rs1, rs2, csr, imm, aq, rl⟩] [] (fun v _ => some v) = encK Ly J 2 true true false true 103 0 0 rd rs1 rs2 csr imm aq rl := by kernel_rfl
theorem enc4 (Ly : Int → Int → Int × Bool) (J : Int → Int → Int → Int → Int → Int → Int) (rd rs1 rs2 csr imm : Int) (aq rl : Bool) : callK (ctx (encΦ Ly J)) 20 0 25 [instV ⟨5, rd, rs1, rs2, csr, imm, aq, rl⟩] [] (fun v _ => some v) = encK Ly J 3 false true true true 99 0 0 rd rs1 rs2 csr imm aq rl := by kernel_rfl
theorem enc5 (Ly : Int → Int → Int × Bool) (J : Int → Int → Int → Int → Int → Int → Int) (rd rs1 rs2 csr imm : Int) (aq rl : Bool) : callK (ctx (encΦ Ly J)) 20 0 25 [instV ⟨6, rd, rs1, rs2, csr, imm, aq, rl⟩] [] (fun v _ => some v) = encK Ly J 3 false true true true 99 1 0 rd rs1 rs2 csr imm aq rl := by kernel_rfl
theorem enc6 (Ly : Int → Int → Int × Bool) (J : Int → Int → Int → Int → Int → Int → Int) (rd rs1 rs2 csr imm : Int) (aq rl : Bool) : callK (ctx (encΦ Ly J)) 20 0 25 [instV ⟨7, rd, rs1, rs2, csr, imm, aq, rl⟩] [] (fun v _ => some v) = encK Ly J 3 false true true true 99 4 0 rd rs1 rs2 csr imm aq rl := by kernel_rfl
theorem enc7 (Ly : Int → Int → Int × Bool) (J : Int → Int → Int → Int → Int → Int → Int) (rd rs1 rs2 csr imm : Int) (aq rl : Bool) : callK (ctx (encΦ Ly J)) 20 0 25 [instV ⟨8, rd, rs1, rs2, csr, imm, aq, rl⟩] [] (fun v _ => some v) = encK Ly J 3 false true true true 99 5 0 rd rs1 rs2 csr imm aq rl := by kernel_rfl
theorem enc8 (Ly : Int → Int → Int × Bool) (J : Int → Int → Int → Int → Int → Int → Int) (rd rs1 rs2 csr imm : Int) (aq rl : Bool) : callK (ctx (encΦ Ly J)) 20 0 25 [instV ⟨9, rd, rs1, rs2, csr, imm, aq, rl⟩] [] (fun v _ => some v) = encK Ly J 3 false true true true 99 6 0 rd rs1 rs2 csr imm aq rl := by kernel_rfl
theorem enc9 (Ly : Int → Int → Int × Bool) (J : Int → Int → Int → Int → Int → Int → Int) (rd rs1 rs2 csr imm : Int) (aq rl : Bool) : callK (ctx (encΦ Ly J)) 20 0 25 [instV ⟨10, rd, rs1, rs2, csr, imm, aq, rl⟩] [] (fun v _ => some v) = encK Ly J 3 false true true true 99 7 0 rd rs1 rs2 csr imm aq rl := by kernel_rfl
theorem enc10 (Ly : Int → Int → Int × Bool) (J : Int → Int → Int → Int → Int → Int → Int) (rd rs1 rs2 csr imm : Int) (aq rl : Bool) : callK (ctx (encΦ Ly J)) 20 0 25 [instV ⟨11, rd, rs1, rs2, csr, imm, aq, rl⟩] [] (fun v _ => some v) = encK Ly J 2 true true false true 3 0 0 rd rs1 rs2 csr imm aq rl := by kernel_rfl
theorem enc11 (Ly : Int → Int → Int × Bool) (J : Int → Int → Int → Int → Int → Int → Int) (rd rs1 rs2 csr imm : Int) (aq rl : Bool) : callK (ctx (encΦ Ly J)) 20 0 25 [instV ⟨12, rd, rs1, rs2, csr, imm, aq, rl⟩] [] (fun v _ => some v) = encK Ly J 2 true true false true 3 1 0 rd rs1 rs2 csr imm aq rl := by kernel_rfl
theorem enc12 (Ly : Int → Int → Int × Bool) (J : Int → Int → Int → Int → Int → Int → Int) (rd rs1 rs2 csr imm : Int) (aq rl : Bool) : callK (ctx (encΦ Ly J)) 20 0 25 [instV ⟨13, rd, rs1, rs2, csr, imm, aq, rl⟩] [] (fun v _ => some v) = encK Ly J 2 true true false true 3 2 0 rd rs1 rs2 csr imm aq rl := by kernel_rfl
theorem enc13 (Ly : Int → Int → Int × Bool) (J : Int → Int → Int → Int → Int → Int → Int) (rd rs1 rs2 csr imm : Int) (aq rl : Bool) : callK (ctx (encΦ Ly J)) 20 0 25 [instV ⟨14, rd, rs1, rs2, csr, imm, aq, rl⟩] [] (fun v _ => some v) = encK Ly J 2 true true false true 3 4 0 rd rs1 rs2 csr imm aq rl := by kernel_rfl
theorem enc14 (Ly : Int → Int → Int × Bool) (J : Int → Int → Int → Int → Int → Int → Int) (rd rs1 rs2 csr imm : Int) (aq rl : Bool) : callK (ctx (encΦ Ly J)) 20 0 25 [instV ⟨15, rd, rs1, rs2, csr, imm, aq, rl⟩] [] (fun v _ => some v) = encK Ly J 2 true true false true 3 5 0 rd rs1 rs2 csr imm aq rl := by kernel_rfl
theorem enc15 (Ly : Int → Int → Int × Bool) (J : Int → Int → Int → Int → Int → Int → Int) (rd rs1 rs2 csr imm : Int) (aq rl : Bool) : callK (ctx (encΦ Ly J)) 20 0 25 [instV ⟨16, rd, rs1, rs2, csr, imm, aq, rl⟩] [] (fun v _ => some v) = encK Ly J 4 false true true true 35 0 0 rd rs1 rs2 csr imm aq rl := by kernel_rfl
theorem enc16 (Ly : Int → Int → Int × Bool) (J : Int → Int → Int → Int → Int → Int → Int) (rd rs1 rs2 csr imm : Int) (aq rl : Bool) : callK (ctx (encΦ Ly J)) 20 0 25 [instV ⟨17, rd, rs1, rs2, csr, imm, aq, rl⟩] [] (fun v _ => some v) = encK Ly J 4 false true true true 35 1 0 rd rs1 rs2 csr imm aq rl := by kernel_rfl
theorem enc17 (Ly : Int → Int → Int × Bool) (J : Int → Int → Int → Int → Int → Int → Int) (rd rs1 rs2 csr imm : Int) (aq rl : Bool) : callK (ctx (encΦ Ly J)) 20 0 25 [instV ⟨18, rd, rs1, rs2, csr, imm, aq, rl⟩] [] (fun v _ => some v) = encK Ly J 4 false true true true 35 2 0 rd rs1 rs2 csr imm aq rl := by kernel_rfl
theorem enc18 (Ly : Int → Int → Int × Bool) (J : Int → Int → Int → Int → Int → Int → Int) (rd rs1 rs2 csr imm : Int) (aq rl : Bool) : callK (ctx (encΦ Ly J)) 20 0 25 [instV ⟨19, rd, rs1, rs2, csr, imm, aq, rl⟩] [] (fun v _ => some v) = encK Ly J 2 true true false true 19 0 0 rd rs1 rs2 csr imm aq rl := by kernel_rfl
theorem enc19 (Ly : Int → Int → Int × Bool) (J : Int → Int → Int → Int → Int → Int → Int) (rd rs1 rs2 csr imm : Int) (aq rl : Bool) : callK (ctx (encΦ Ly J)) 20 0 25 [instV ⟨20, rd, rs1, rs2, csr, imm, aq, rl⟩] [] (fun v _ => some v) = encK Ly J 2 true true false true 19 2 0 rd rs1 rs2 csr imm aq rl := by kernel_rfl
theorem enc20 (Ly : Int → Int → Int × Bool) (J : Int → Int → Int → Int → Int → Int → Int) (rd rs1 rs2 csr imm : Int) (aq rl : Bool) : callK (ctx (encΦ Ly J)) 20 0 25 [instV ⟨21, rd, rs1, rs2, csr, imm, aq, rl⟩] [] (fun v _ => some v) = encK Ly J 2 true true false true 19 3 0 rd rs1 rs2 csr imm aq rl := by kernel_rfl
theorem enc21 (Ly : Int → Int → Int × Bool) (J : Int → Int → Int → Int → Int → Int → Int) (rd rs1 rs2 csr imm : Int) (aq rl : Bool) : callK (ctx (encΦ Ly J)) 20 0 25 [instV ⟨22, rd, rs1, rs2, csr, imm, aq, rl⟩] [] (fun v _ => some v) = encK Ly J 2 true true false true 19 4 0 rd rs1 rs2 csr imm aq rl := by kernel_rfl
theorem enc22 (Ly : Int → Int → Int × Bool) (J : Int → Int → Int → Int → Int → Int → Int) (rd rs1 rs2 csr imm : Int) (aq rl : Bool) : callK (ctx (encΦ Ly J)) 20 0 25 [instV ⟨23, rd, rs1, rs2, csr, imm, aq, rl⟩] [] (fun v _ => some v) = encK Ly J 2 true true false true 19 6 0 rd rs1 rs2 csr imm aq rl := by kernel_rfl
theorem enc23 (Ly : Int → Int → Int × Bool) (J : Int → Int → Int → Int → Int → Int → Int) (rd rs1 rs2 csr imm : Int) (aq rl : Bool) : callK (ctx (encΦ Ly J)) 20 0 25 [instV ⟨24, rd, rs1, rs2, csr, imm, aq, rl⟩] [] (fun v _ => some v) = encK Ly J 2 true true false true 19 7 0 rd rs1 rs2 csr imm aq rl := by kernel_rfl
theorem enc24 (Ly : Int → Int → Int × Bool) (J : Int → Int → Int → Int → Int → Int → Int) (rd rs1 rs2 csr imm : Int) (aq rl : Bool) : callK (ctx (encΦ Ly J)) 20 0 25 [instV ⟨25, rd, rs1, rs2, csr, imm, aq, rl⟩] [] (fun v _ => some v) = encK Ly J 5 true true false true 19 1 0 rd rs1 rs2 csr imm aq rl := by kernel_rfl
theorem enc25 (Ly : Int → Int → Int × Bool) (J : Int → Int → Int → Int → Int → Int → Int) (rd rs1 rs2 csr imm : Int) (aq rl : Bool) : callK (ctx (encΦ Ly J)) 20 0 25 [instV ⟨26, rd, rs1, rs2, csr, imm, aq, rl⟩] [] (fun v _ => some v) = encK Ly J 5 true true false true 19 5 0 rd rs1 rs2 csr imm aq rl := by kernel_rfl
theorem enc26 (Ly : Int → Int → Int × Bool) (J : Int → Int → Int → Int → Int → Int → Int) (rd rs1 rs2 csr imm : Int) (aq rl : Bool) : callK (ctx (encΦ Ly J)) 20 0 25 [instV ⟨27, rd, rs1, rs2, csr, imm, aq, rl⟩] [] (fun v _ => some v) = encK Ly J 5 true true false true 19 5 32 rd rs1 rs2 csr imm aq rl := by kernel_rfl
theorem enc27 (Ly : Int → Int → Int × Bool) (J : Int → Int → Int → Int → Int → Int → Int) (rd rs1 rs2 csr imm : Int) (aq rl : Bool) : callK (ctx (encΦ Ly J)) 20 0 25 [instV ⟨28, rd, rs1, rs2, csr, imm, aq, rl⟩] [] (fun v _ => some v) = encK Ly J 6 true true true false 51 0 0 rd rs1 rs2 csr imm aq rl := by kernel_rfl
theorem enc28 (Ly : Int → Int → Int × Bool) (J : Int → Int → Int → Int → Int → Int → Int) (rd rs1 rs2 csr imm : Int) (aq rl : Bool) : callK (ctx (encΦ Ly J)) 20 0 25 [instV ⟨29, rd, rs1, rs2, csr, imm, aq, rl⟩] [] (fun v _ => some v) = encK Ly J 6 true true true false 51 0 32 rd rs1 rs2 csr imm aq rl := by kernel_rfl
theorem enc29 (Ly : Int → Int → Int × Bool) (J : Int → Int → Int → Int → Int → Int → Int) (rd rs1 rs2 csr imm : Int) (aq rl : Bool) : callK (ctx (encΦ Ly J)) 20 0 25 [instV ⟨30, rd, rs1, rs2, csr, imm, aq, rl⟩] [] (fun v _ => some v) = encK Ly J 6 true true true false 51 1 0 rd rs1 rs2 csr imm aq rl := by kernel_rfl
theorem enc30 (Ly : Int → Int → Int × Bool) (J : Int → Int → Int → Int → Int → Int → Int) (rd rs1 rs2 csr imm : Int) (aq rl : Bool) : callK (ctx (encΦ Ly J)) 20 0 25 [instV ⟨31, rd, rs1, rs2, csr, imm, aq, rl⟩] [] (fun v _ => some v) = encK Ly J 6 true true true false 51 2 0 rd rs1 rs2 csr imm aq rl := by kernel_rfl
theorem enc31 (Ly : Int → Int → Int × Bool) (J : Int → Int → Int → Int → Int → Int → Int) (rd rs1 rs2 csr imm : Int) (aq rl : Bool) : callK (ctx (encΦ Ly J)) 20 0 25 [instV ⟨32, rd, rs1, rs2, csr, imm, aq, rl⟩] [] (fun v _ => some v) = encK Ly J 6 true true true false 51 3 0 rd rs1 rs2 csr imm aq rl := by kernel_rfl
theorem enc32 (Ly : Int → Int → Int × Bool) (J : Int → Int → Int → Int → Int → Int → Int) (rd rs1 rs2 csr imm : Int) (aq rl : Bool) : callK (ctx (encΦ Ly J)) 20 0 25 [instV ⟨33, rd, rs1, rs2, csr, imm, aq, rl⟩] [] (fun v _ => some v) = encK Ly J 6 true true true false 51 4 0 rd rs1 rs2 csr imm aq rl := by kernel_rfl
theorem enc33 (Ly : Int → Int → Int × Bool) (J : Int → Int → Int → Int → Int → Int → Int) (rd rs1 rs2 csr imm : Int) (aq rl : Bool) : callK (ctx (encΦ Ly J)) 20 0 25 [instV ⟨34, rd, rs1, rs2, csr, imm, aq, rl⟩] [] (fun v _ => some v) = encK Ly J 6 true true true false 51 5 0 rd rs1 rs2 csr imm aq rl := by kernel_rfl
theorem enc34 (Ly : Int → Int → Int × Bool) (J : Int → Int → Int → Int → Int → Int → Int) (rd rs1 rs2 csr imm : Int) (aq rl : Bool) : callK (ctx (encΦ Ly J)) 20 0 25 [instV ⟨35, rd, rs1, rs2, csr, imm, aq, rl⟩] [] (fun v _ => some v) = encK Ly J 6 true true true false 51 5 32 rd rs1 rs2 csr imm aq rl := by kernel_rfl
theorem enc35 (Ly : Int → Int → Int × Bool) (J : Int → Int → Int → Int → Int → Int → Int) (rd rs1 rs2 csr imm : Int) (aq rl : Bool) : callK (ctx (encΦ Ly J)) 20 0 25 [instV ⟨36, rd, rs1, rs2, csr, imm, aq, rl⟩] [] (fun v _ => some v) = encK Ly J 6 true true true false 51 6 0 rd rs1 rs2 csr imm aq rl := by kernel_rfl
theorem enc36 (Ly : Int → Int → Int × Bool) (J : Int → Int → Int → Int → Int → Int → Int) (rd rs1 rs2 csr imm : Int) (aq rl : Bool) : callK (ctx (encΦ Ly J)) 20 0 25 [instV ⟨37, rd, rs1, rs2, csr, imm, aq, rl⟩] [] (fun v _ => some v) = encK Ly J 6 true true true false 51 7 0 rd rs1 rs2 csr imm aq rl := by kernel_rfl
theorem enc37 (Ly : Int → Int → Int × Bool) (J : Int → Int → Int → Int → Int → Int → Int) (rd rs1 rs2 csr imm : Int) (aq rl : Bool) : callK (ctx (encΦ Ly J)) 20 0 25 [instV ⟨38, rd, rs1, rs2, csr, imm, aq, rl⟩] [] (fun v _ => some v) = encK Ly J 7 false false false true 15 0 0 rd rs1 rs2 csr imm aq rl := by kernel_rfl
theorem enc38 (Ly : Int → Int → Int × Bool) (J : Int → Int → Int → Int → Int → Int → Int) (rd rs1 rs2 csr imm : Int) (aq rl : Bool) : callK (ctx (encΦ Ly J)) 20 0 25 [instV ⟨39, rd, rs1, rs2, csr, imm, aq, rl⟩] [] (fun v _ => some v) = encK Ly J 8 false false false false 4111 0 0 rd rs1 rs2 csr imm aq rl := by kernel_rfl
theorem enc39 (Ly : Int → Int → Int × Bool) (J : Int → Int → Int → Int → Int → Int → Int) (rd rs1 rs2 csr imm : Int) (aq rl : Bool) : callK (ctx (encΦ Ly J)) 20 0 25 [instV ⟨40, rd, rs1, rs2, csr, imm, aq, rl⟩] [] (fun v _ => some v) = encK Ly J 8 false false false false 115 0 0 rd rs1 rs2 csr imm aq rl := by kernel_rfl
theorem enc40 (Ly : Int → Int → Int × Bool) (J : Int → Int → Int → Int → Int → Int → Int) (rd rs1 rs2 csr imm : Int) (aq rl : Bool) : callK (ctx (encΦ Ly J)) 20 0 25 [instV ⟨41, rd, rs1, rs2, csr, imm, aq, rl⟩] [] (fun v _ => some v) = encK Ly J 8 false false false false 1048691 0 0 rd rs1 rs2 csr imm aq rl := by kernel_rfl
theorem enc41 (Ly : Int → Int → Int × Bool) (J : Int → Int → Int → Int → Int → Int → Int) (rd rs1 rs2 csr imm : Int) (aq rl : Bool) : callK (ctx (encΦ Ly J)) 20 0 25 [instV ⟨42, rd, rs1, rs2, csr, imm, aq, rl⟩] [] (fun v _ => some v) = encK Ly J 8 false false false false 807403635 0 0 rd rs1 rs2 csr imm aq rl := by kernel_rfl
theorem enc42 (Ly : Int → Int → Int × Bool) (J : Int → Int → Int → Int → Int → Int → Int) (rd rs1 rs2 csr imm : Int) (aq rl : Bool) : callK (ctx (encΦ Ly J)) 20 0 25 [instV ⟨43, rd, rs1, rs2, csr, imm, aq, rl⟩] [] (fun v _ => some v) = encK Ly J 8 false false false false 273678451 0 0 rd rs1 rs2 csr imm aq rl := by kernel_rfl
theorem enc43 (Ly : Int → Int → Int × Bool) (J : Int → Int → Int → Int → Int → Int → Int) (rd rs1 rs2 csr imm : Int) (aq rl : Bool) : callK (ctx (encΦ Ly J)) 20 0 25 [instV ⟨44, rd, rs1, rs2, csr, imm, aq, rl⟩] [] (fun v _ => some v) = encK Ly J 9 false true true false 115 0 9 rd rs1 rs2 csr imm aq rl := by kernel_rfl
theorem enc44 (Ly : Int → Int → Int × Bool) (J : Int → Int → Int → Int → Int → Int → Int) (rd rs1 rs2 csr imm : Int) (aq rl : Bool) : callK (ctx (encΦ Ly J)) 20 0 25 [instV ⟨45, rd, rs1, rs2, csr, imm, aq, rl⟩] [] (fun v _ => some v) = encK Ly J 10 true true false false 115 1 0 rd rs1 rs2 csr imm aq rl := by kernel_rfl
theorem enc45 (Ly : Int → Int → Int × Bool) (J : Int → Int → Int → Int → Int → Int → Int) (rd rs1 rs2 csr imm : Int) (aq rl : Bool) : callK (ctx (encΦ Ly J)) 20 0 25 [instV ⟨46, rd, rs1, rs2, csr, imm, aq, rl⟩] [] (fun v _ => some v) = encK Ly J 10 true true false false 115 2 0 rd rs1 rs2 csr imm aq rl := by kernel_rfl
theorem enc46 (Ly : Int → Int → Int × Bool) (J : Int → Int → Int → Int → Int → Int → Int) (rd rs1 rs2 csr imm : Int) (aq rl : Bool) : callK (ctx (encΦ Ly J)) 20 0 25 [instV ⟨47, rd, rs1, rs2, csr, imm, aq, rl⟩] [] (fun v _ => some v) = encK Ly J 10 true true false false 115 3 0 rd rs1 rs2 csr imm aq rl := by kernel_rfl
theorem enc47 (Ly : Int → Int → Int × Bool) (J : Int → Int → Int → Int → Int → Int → Int) (rd rs1 rs2 csr imm : Int) (aq rl : Bool) : callK (ctx (encΦ Ly J)) 20 0 25 [instV ⟨48, rd, rs1, rs2, csr, imm, aq, rl⟩] [] (fun v _ => some v) = encK Ly J 11 true false false true 115 5 0 rd rs1 rs2 csr imm aq rl := by kernel_rfl
theorem enc48 (Ly : Int → Int → Int × Bool) (J : Int → Int → Int → Int → Int → Int → Int) (rd rs1 rs2 csr imm : Int) (aq rl : Bool) : callK (ctx (encΦ Ly J)) 20 0 25 [instV ⟨49, rd, rs1, rs2, csr, imm, aq, rl⟩] [] (fun v _ => some v) = encK Ly J 11 true false false true 115 6 0 rd rs1 rs2 csr imm aq rl := by kernel_rfl
theorem enc49 (Ly : Int → Int → Int × Bool) (J : Int → Int → Int → Int → Int → Int → Int) (rd rs1 rs2 csr imm : Int) (aq rl : Bool) : callK (ctx (encΦ Ly J)) 20 0 25 [instV ⟨50, rd, rs1, rs2, csr, imm, aq, rl⟩] [] (fun v _ => some v) = encK Ly J 11 true false false true 115 7 0 rd rs1 rs2 csr imm aq rl := by kernel_rfl
theorem enc50 (Ly : Int → Int → Int × Bool) (J : Int → Int → Int → Int → Int → Int → Int) (rd rs1 rs2 csr imm : Int) (aq rl : Bool) : callK (ctx (encΦ Ly J)) 20 0 25 [instV ⟨51, rd, rs1, rs2, csr, imm, aq, rl⟩] [] (fun v _ => some v) = encK Ly J 6 true true true false 51 0 1 rd rs1 rs2 csr imm aq rl := by kernel_rfl
theorem enc51 (Ly : Int → Int → Int × Bool) (J : Int → Int → Int → Int → Int → Int → Int) (rd rs1 rs2 csr imm : Int) (aq rl : Bool) : callK (ctx (encΦ Ly J)) 20 0 25 [instV ⟨52, rd, rs1, rs2, csr, imm, aq, rl⟩] [] (fun v _ => some v) = encK Ly J 6 true true true false 51 1 1 rd rs1 rs2 csr imm aq rl := by kernel_rfl
theorem enc52 (Ly : Int → Int → Int × Bool) (J : Int → Int → Int → Int → Int → Int → Int) (rd rs1 rs2 csr imm : Int) (aq rl : Bool) : callK (ctx (encΦ Ly J)) 20 0 25 [instV ⟨53, rd, rs1, rs2, csr, imm, aq, rl⟩] [] (fun v _ => some v) = encK Ly J 6 true true true false 51 2 1 rd rs1 rs2 csr imm aq rl := by kernel_rfl
theorem enc53 (Ly : Int → Int → Int × Bool) (J : Int → Int → Int → Int → Int → Int → Int) (rd rs1 rs2 csr imm : Int) (aq rl : Bool) : callK (ctx (encΦ Ly J)) 20 0 25 [instV ⟨54, rd, rs1, rs2, csr, imm, aq, rl⟩] [] (fun v _ => some v) = encK Ly J 6 true true true false 51 3 1 rd rs1 rs2 csr imm aq rl := by kernel_rfl
theorem enc54 (Ly : Int → Int → Int × Bool) (J : Int → Int → Int → Int → Int → Int → Int) (rd rs1 rs2 csr imm : Int) (aq rl : Bool) : callK (ctx (encΦ Ly J)) 20 0 25 [instV ⟨55, rd, rs1, rs2, csr, imm, aq, rl⟩] [] (fun v _ => some v) = encK Ly J 6 true true true false 51 4 1 rd rs1 rs2 csr imm aq rl := by kernel_rfl
theorem enc55 (Ly : Int → Int → Int × Bool) (J : Int → Int → Int → Int → Int → Int → Int) (rd rs1 rs2 csr imm : Int) (aq rl : Bool) : callK (ctx (encΦ Ly J)) 20 0 25 [instV ⟨56, rd, rs1, rs2, csr, imm, aq, rl⟩] [] (fun v _ => some v) = encK Ly J 6 true true true false 51 5 1 rd rs1 rs2 csr imm aq rl := by kernel_rfl
theorem enc56 (Ly : Int → Int → Int × Bool) (J : Int → Int → Int → Int → Int → Int → Int) (rd rs1 rs2 csr imm : Int) (aq rl : Bool) : callK (ctx (encΦ Ly J)) 20 0 25 [instV ⟨57, rd, rs1, rs2, csr, imm, aq, rl⟩] [] (fun v _ => some v) = encK Ly J 6 true true true false 51 6 1 rd rs1 rs2 csr imm aq rl := by kernel_rfl
theorem enc57 (Ly : Int → Int → Int × Bool) (J : Int → Int → Int → Int → Int → Int → Int) (rd rs1 rs2 csr imm : Int) (aq rl : Bool) : callK (ctx (encΦ Ly J)) 20 0 25 [instV ⟨58, rd, rs1, rs2, csr, imm, aq, rl⟩] [] (fun v _ => some v) = encK Ly J 6 true true true false 51 7 1 rd rs1 rs2 csr imm aq rl := by kernel_rfl
theorem enc58 (Ly : Int → Int → Int × Bool) (J : Int → Int → Int → Int → Int → Int → Int) (rd rs1 rs2 csr imm : Int) (aq rl : Bool) : callK (ctx (encΦ Ly J)) 20 0 25 [instV ⟨59, rd, rs1, rs2, csr, imm, aq, rl⟩] [] (fun v _ => some v) = encK Ly J 12 true true false false 47 2 2 rd rs1 rs2 csr imm aq rl := by kernel_rfl
theorem enc59 (Ly : Int → Int → Int × Bool) (J : Int → Int → Int → Int → Int → Int → Int) (rd rs1 rs2 csr imm : Int) (aq rl : Bool) : callK (ctx (encΦ Ly J)) 20 0 25 [instV ⟨60, rd, rs1, rs2, csr, imm, aq, rl⟩] [] (fun v _ => some v) = encK Ly J 13 true true true false 47 2 3 rd rs1 rs2 csr imm aq rl := by kernel_rfl
theorem enc60 (Ly : Int → Int → Int × Bool) (J : Int → Int → Int → Int → Int → Int → Int) (rd rs1 rs2 csr imm : Int) (aq rl : Bool) : callK (ctx (encΦ Ly J)) 20 0 25 [instV ⟨61, rd, rs1, rs2, csr, imm, aq, rl⟩] [] (fun v _ => some v) = encK Ly J 13 true true true false 47 2 1 rd rs1 rs2 csr imm aq rl := by kernel_rfl
theorem enc61 (Ly : Int → Int → Int × Bool) (J : Int → Int → Int → Int → Int → Int → Int) (rd rs1 rs2 csr imm : Int) (aq rl : Bool) : callK (ctx (encΦ Ly J)) 20 0 25 [instV ⟨62, rd, rs1, rs2, csr, imm, aq, rl⟩] [] (fun v _ => some v) = encK Ly J 13 true true true false 47 2 0 rd rs1 rs2 csr imm aq rl := by kernel_rfl
theorem enc62 (Ly : Int → Int → Int × Bool) (J : Int → Int → Int → Int → Int → Int → Int) (rd rs1 rs2 csr imm : Int) (aq rl : Bool) : callK (ctx (encΦ Ly J)) 20 0 25 [instV ⟨63, rd, rs1, rs2, csr, imm, aq, rl⟩] [] (fun v _ => some v) = encK Ly J 13 true true true false 47 2 4 rd rs1 rs2 csr imm aq rl := by kernel_rfl
theorem enc63 (Ly : Int → Int → Int × Bool) (J : Int → Int → Int → Int → Int → Int → Int) (rd rs1 rs2 csr imm : Int) (aq rl : Bool) : callK (ctx (encΦ Ly J)) 20 0 25 [instV ⟨64, rd, rs1, rs2, csr, imm, aq, rl⟩] [] (fun v _ => some v) = encK Ly J 13 true true true false 47 2 12 rd rs1 rs2 csr imm aq rl := by kernel_rfl
theorem enc64 (Ly : Int → Int → Int × Bool) (J : Int → Int → Int → Int → Int → Int → Int) (rd rs1 rs2 csr imm : Int) (aq rl : Bool) : callK (ctx (encΦ Ly J)) 20 0 25 [instV ⟨65, rd, rs1, rs2, csr, imm, aq, rl⟩] [] (fun v _ => some v) = encK Ly J 13 true true true false 47 2 8 rd rs1 rs2 csr imm aq rl := by kernel_rfl
theorem enc65 (Ly : Int → Int → Int × Bool) (J : Int → Int → Int → Int → Int → Int → Int) (rd rs1 rs2 csr imm : Int) (aq rl : Bool) : callK (ctx (encΦ Ly J)) 20 0 25 [instV ⟨66, rd, rs1, rs2, csr, imm, aq, rl⟩] [] (fun v _ => some v) = encK Ly J 13 true true true false 47 2 16 rd rs1 rs2 csr imm aq rl := by kernel_rfl
theorem enc66 (Ly : Int → Int → Int × Bool) (J : Int → Int → Int → Int → Int → Int → Int) (rd rs1 rs2 csr imm : Int) (aq rl : Bool) : callK (ctx (encΦ Ly J)) 20 0 25 [instV ⟨67, rd, rs1, rs2, csr, imm, aq, rl⟩] [] (fun v _ => some v) = encK Ly J 13 true true true false 47 2 20 rd rs1 rs2 csr imm aq rl := by kernel_rfl
theorem enc67 (Ly : Int → Int → Int × Bool) (J : Int → Int → Int → Int → Int → Int → Int) (rd rs1 rs2 csr imm : Int) (aq rl : Bool) : callK (ctx (encΦ Ly J)) 20 0 25 [instV ⟨68, rd, rs1, rs2, csr, imm, aq, rl⟩] [] (fun v _ => some v) = encK Ly J 13 true true true false 47 2 24 rd rs1 rs2 csr imm aq rl := by kernel_rfl
theorem enc68 (Ly : Int → Int → Int × Bool) (J : Int → Int → Int → Int → Int → Int → Int) (rd rs1 rs2 csr imm : Int) (aq rl : Bool) : callK (ctx (encΦ Ly J)) 20 0 25 [instV ⟨69, rd, rs1, rs2, csr, imm, aq, rl⟩] [] (fun v _ => some v) = encK Ly J 13 true true true false 47 2 28 rd rs1 rs2 csr imm aq rl := by kernel_rfl
noncomputable def deadΦ : Oracle := fun lo f args H => match f with
  | 69 => some []
  | _ => none
theorem deadΦ_ok : CtxOK Tryz.prog (ctx deadΦ) := ctxOK fun lo f args H l v H' h hm => by
  unfold deadΦ at h
  split at h
  · cases h; cases hm
  · cases h
theorem enc_no (op rd rs1 rs2 csr imm : Int) (aq rl : Bool) : callK (ctx deadΦ) 20 0 25 [instV ⟨op, rd, rs1, rs2, csr, imm, aq, rl⟩] [] (fun v _ => some v) = bif decide (op < 1) then some (encErr 1) else bif decide (op > 69) then some (encErr 1) else none := by kernel_rfl
noncomputable def encV (i : Inst) : Value := match (bif isOp i.op then encK (rlayF layV) joinV (formF i.op) (usesF (formF i.op)).1 (usesF (formF i.op)).2.1 (usesF (formF i.op)).2.2.1 (usesF (formF i.op)).2.2.2 (opcL.getD (i.op - 1).toNat 0) (f3L.getD (i.op - 1).toNat 0) (f7L.getD (i.op - 1).toNat 0) i.rd i.rs1 i.rs2 i.csr i.imm i.aq i.rl else some (encErr 1)) with
  | some v => v
  | none => encErr 1
inductive EncR : Value → Prop
  | ok (w : Int) : EncR (encOk w)
  | err (g : Nat) : g ∈ [1, 2, 3] → EncR (encErr g)
theorem gh_err (g : Nat) : Gh (errV g) := fun M u hv => by
  cases hv with
  | iface h =>
    generalize hg : sp g = x at h
    cases h <;> first | (cases hg; done) | skip
    rename_i g' a hf
    injection hg with _ _ e; injection e with e; injection e with e _; injection e with _ e; injection e with e; subst e
    exact .iface (.sptr hf)
theorem EncR.gh {v : Value} (h : EncR v) : Gh v := by
  cases h with
  | ok w => exact Gh.plain rfl
  | err g _ => exact Gh.tuple (fun x hx => by
      simp only [List.mem_cons, List.not_mem_nil, or_false] at hx
      rcases hx with rfl | rfl
      · exact Gh.plain rfl
      · exact gh_err g)
def Tree (t : Option Value) : Prop := ∃ v, t = some v ∧ EncR v
theorem Tree.ok (w : Int) : Tree (some (encOk w)) := ⟨_, rfl, .ok w⟩
theorem Tree.err {g : Nat} (h : g ∈ [1, 2, 3]) : Tree (some (encErr g)) := ⟨_, rfl, .err g h⟩
theorem Tree.bif {b : Bool} {s t : Option Value} (hs : Tree s) (ht : Tree t) : Tree (bif b then s else t) := by cases b <;> assumption
theorem Tree.rng {n : Int} {t : Option Value} (ht : Tree t) : Tree (rng n t) := .bif (.err (by decide)) (.bif (.err (by decide)) ht)
theorem Tree.ck {f c : Bool} {t : Option Value} (ht : Tree t) : Tree (ck f c t) := .bif (.bif (.err (by decide)) ht) ht
theorem encT_tree (J : Int → Int → Int → Int → Int → Int → Int) (fm : Nat) (a b c d : Bool) (opc f3 f7 rd rs1 rs2 csr imm : Int) (aq rl : Bool) (w : Int) : Tree (encT J fm a b c d opc f3 f7 rd rs1 rs2 csr imm aq rl w) :=
  .ck (.ck (.ck (.ck (.ck (.ck (.ck (.bif (.ok _) (.bif (.bif (.bif (.ok _) (.ok _)) (.bif (.ok _) (.ok _))) (.ok _)))))))))
theorem encK_tree (Ly : Int → Int → Int × Bool) (J : Int → Int → Int → Int → Int → Int → Int) (fm : Nat) (a b c d : Bool) (opc f3 f7 rd rs1 rs2 csr imm : Int) (aq rl : Bool) : Tree (encK Ly J fm a b c d opc f3 f7 rd rs1 rs2 csr imm aq rl) :=
  .rng (.rng (.rng (.bif (.err (by decide)) (.bif (.err (by decide)) (.bif (.bif (encT_tree ..) (.err (by decide))) (encT_tree ..))))))
theorem encV_R (i : Inst) : EncR (encV i) := by
  unfold encV
  cases isOp i.op with
  | false => exact .err 1 (by decide)
  | true =>
    simp only [cond_true]
    obtain ⟨v, h, hv⟩ := encK_tree (rlayF layV) joinV (formF i.op) (usesF (formF i.op)).1 (usesF (formF i.op)).2.1 (usesF (formF i.op)).2.2.1 (usesF (formF i.op)).2.2.2 (opcL.getD (i.op - 1).toNat 0) (f3L.getD (i.op - 1).toNat 0) (f7L.getD (i.op - 1).toNat 0) i.rd i.rs1 i.rs2 i.csr i.imm i.aq i.rl
    rw [h]; exact hv
def encAt (Ly : Int → Int → Int × Bool) (J : Int → Int → Int → Int → Int → Int → Int) (op rd rs1 rs2 csr imm : Int) (aq rl : Bool) : Option Value :=
  encK Ly J (formF op) (usesF (formF op)).1 (usesF (formF op)).2.1 (usesF (formF op)).2.2.1 (usesF (formF op)).2.2.2 (opcL.getD (op - 1).toNat 0) (f3L.getD (op - 1).toNat 0) (f7L.getD (op - 1).toNat 0) rd rs1 rs2 csr imm aq rl
theorem encAll (Ly : Int → Int → Int × Bool) (J : Int → Int → Int → Int → Int → Int → Int) (rd rs1 rs2 csr imm : Int) (aq rl : Bool) : ∀ k : Nat, k < 69 → callK (ctx (encΦ Ly J)) 20 0 25 [instV ⟨(k : Int) + 1, rd, rs1, rs2, csr, imm, aq, rl⟩] [] (fun v _ => some v) = encAt Ly J ((k : Int) + 1) rd rs1 rs2 csr imm aq rl
  | 0, _ => enc0 Ly J rd rs1 rs2 csr imm aq rl
  | 1, _ => enc1 Ly J rd rs1 rs2 csr imm aq rl
  | 2, _ => enc2 Ly J rd rs1 rs2 csr imm aq rl
  | 3, _ => enc3 Ly J rd rs1 rs2 csr imm aq rl
  | 4, _ => enc4 Ly J rd rs1 rs2 csr imm aq rl
  | 5, _ => enc5 Ly J rd rs1 rs2 csr imm aq rl
  | 6, _ => enc6 Ly J rd rs1 rs2 csr imm aq rl
  | 7, _ => enc7 Ly J rd rs1 rs2 csr imm aq rl
  | 8, _ => enc8 Ly J rd rs1 rs2 csr imm aq rl
  | 9, _ => enc9 Ly J rd rs1 rs2 csr imm aq rl
  | 10, _ => enc10 Ly J rd rs1 rs2 csr imm aq rl
  | 11, _ => enc11 Ly J rd rs1 rs2 csr imm aq rl
  | 12, _ => enc12 Ly J rd rs1 rs2 csr imm aq rl
  | 13, _ => enc13 Ly J rd rs1 rs2 csr imm aq rl
  | 14, _ => enc14 Ly J rd rs1 rs2 csr imm aq rl
  | 15, _ => enc15 Ly J rd rs1 rs2 csr imm aq rl
  | 16, _ => enc16 Ly J rd rs1 rs2 csr imm aq rl
  | 17, _ => enc17 Ly J rd rs1 rs2 csr imm aq rl
  | 18, _ => enc18 Ly J rd rs1 rs2 csr imm aq rl
  | 19, _ => enc19 Ly J rd rs1 rs2 csr imm aq rl
  | 20, _ => enc20 Ly J rd rs1 rs2 csr imm aq rl
  | 21, _ => enc21 Ly J rd rs1 rs2 csr imm aq rl
  | 22, _ => enc22 Ly J rd rs1 rs2 csr imm aq rl
  | 23, _ => enc23 Ly J rd rs1 rs2 csr imm aq rl
  | 24, _ => enc24 Ly J rd rs1 rs2 csr imm aq rl
  | 25, _ => enc25 Ly J rd rs1 rs2 csr imm aq rl
  | 26, _ => enc26 Ly J rd rs1 rs2 csr imm aq rl
  | 27, _ => enc27 Ly J rd rs1 rs2 csr imm aq rl
  | 28, _ => enc28 Ly J rd rs1 rs2 csr imm aq rl
  | 29, _ => enc29 Ly J rd rs1 rs2 csr imm aq rl
  | 30, _ => enc30 Ly J rd rs1 rs2 csr imm aq rl
  | 31, _ => enc31 Ly J rd rs1 rs2 csr imm aq rl
  | 32, _ => enc32 Ly J rd rs1 rs2 csr imm aq rl
  | 33, _ => enc33 Ly J rd rs1 rs2 csr imm aq rl
  | 34, _ => enc34 Ly J rd rs1 rs2 csr imm aq rl
  | 35, _ => enc35 Ly J rd rs1 rs2 csr imm aq rl
  | 36, _ => enc36 Ly J rd rs1 rs2 csr imm aq rl
  | 37, _ => enc37 Ly J rd rs1 rs2 csr imm aq rl
  | 38, _ => enc38 Ly J rd rs1 rs2 csr imm aq rl
  | 39, _ => enc39 Ly J rd rs1 rs2 csr imm aq rl
  | 40, _ => enc40 Ly J rd rs1 rs2 csr imm aq rl
  | 41, _ => enc41 Ly J rd rs1 rs2 csr imm aq rl
  | 42, _ => enc42 Ly J rd rs1 rs2 csr imm aq rl
  | 43, _ => enc43 Ly J rd rs1 rs2 csr imm aq rl
  | 44, _ => enc44 Ly J rd rs1 rs2 csr imm aq rl
  | 45, _ => enc45 Ly J rd rs1 rs2 csr imm aq rl
  | 46, _ => enc46 Ly J rd rs1 rs2 csr imm aq rl
  | 47, _ => enc47 Ly J rd rs1 rs2 csr imm aq rl
  | 48, _ => enc48 Ly J rd rs1 rs2 csr imm aq rl
  | 49, _ => enc49 Ly J rd rs1 rs2 csr imm aq rl
  | 50, _ => enc50 Ly J rd rs1 rs2 csr imm aq rl
  | 51, _ => enc51 Ly J rd rs1 rs2 csr imm aq rl
  | 52, _ => enc52 Ly J rd rs1 rs2 csr imm aq rl
  | 53, _ => enc53 Ly J rd rs1 rs2 csr imm aq rl
  | 54, _ => enc54 Ly J rd rs1 rs2 csr imm aq rl
  | 55, _ => enc55 Ly J rd rs1 rs2 csr imm aq rl
  | 56, _ => enc56 Ly J rd rs1 rs2 csr imm aq rl
  | 57, _ => enc57 Ly J rd rs1 rs2 csr imm aq rl
  | 58, _ => enc58 Ly J rd rs1 rs2 csr imm aq rl
  | 59, _ => enc59 Ly J rd rs1 rs2 csr imm aq rl
  | 60, _ => enc60 Ly J rd rs1 rs2 csr imm aq rl
  | 61, _ => enc61 Ly J rd rs1 rs2 csr imm aq rl
  | 62, _ => enc62 Ly J rd rs1 rs2 csr imm aq rl
  | 63, _ => enc63 Ly J rd rs1 rs2 csr imm aq rl
  | 64, _ => enc64 Ly J rd rs1 rs2 csr imm aq rl
  | 65, _ => enc65 Ly J rd rs1 rs2 csr imm aq rl
  | 66, _ => enc66 Ly J rd rs1 rs2 csr imm aq rl
  | 67, _ => enc67 Ly J rd rs1 rs2 csr imm aq rl
  | 68, _ => enc68 Ly J rd rs1 rs2 csr imm aq rl
  | n + 69, h => absurd h (by omega)
theorem encodeOK (i : Inst) : PureOK Tryz.prog 25 [instV i] (encV i) := by
  obtain ⟨op, rd, rs1, rs2, csr, imm, aq, rl⟩ := i
  cases ho : isOp op with
  | true =>
    refine ops (p := fun op => PureOK Tryz.prog 25 [instV ⟨op, rd, rs1, rs2, csr, imm, aq, rl⟩] (encV ⟨op, rd, rs1, rs2, csr, imm, aq, rl⟩)) (fun k hk => ?_) ho
    have h := encAll (rlayF layV) joinV rd rs1 rs2 csr imm aq rl k hk
    have hi : isOp ((k : Int) + 1) = true := by simp only [isOp, Bool.and_eq_true, decide_eq_true_eq]; omega
    have hR := encV_R ⟨(k : Int) + 1, rd, rs1, rs2, csr, imm, aq, rl⟩
    have e : encAt (rlayF layV) joinV ((k : Int) + 1) rd rs1 rs2 csr imm aq rl = some (encV ⟨(k : Int) + 1, rd, rs1, rs2, csr, imm, aq, rl⟩) := by
      obtain ⟨v, hv, _⟩ := encK_tree (rlayF layV) joinV (formF ((k : Int) + 1)) (usesF (formF ((k : Int) + 1))).1 (usesF (formF ((k : Int) + 1))).2.1 (usesF (formF ((k : Int) + 1))).2.2.1 (usesF (formF ((k : Int) + 1))).2.2.2 (opcL.getD ((k : Int) + 1 - 1).toNat 0) (f3L.getD ((k : Int) + 1 - 1).toNat 0) (f7L.getD ((k : Int) + 1 - 1).toNat 0) rd rs1 rs2 csr imm aq rl
      unfold encV encAt
      simp only [hi, cond_true, hv]
    exact PureOK.of_run encΦ_ok (h.trans e) hR.gh
  | false =>
    have h := enc_no op rd rs1 rs2 csr imm aq rl
    have e : encV ⟨op, rd, rs1, rs2, csr, imm, aq, rl⟩ = encErr 1 := by unfold encV; simp only [ho, cond_false]
    rw [e]
    refine PureOK.of_run deadΦ_ok (h.trans ?_) (EncR.err 1 (by decide)).gh
    simp only [isOp, Bool.and_eq_false_iff, decide_eq_false_iff_not] at ho
    by_cases h1 : op < 1
    · simp [h1]
    · have : op > 69 := by omega
      simp [h1, this]
end Go.Proofs.YtgkicojmgokinaaGreatDoor.Ab
