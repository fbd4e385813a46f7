/- The document's Decode, told. Written by gen_ref.py. -/
import Derived.Test.YtgkicojmgokinaaGreatDoorAsmRefWord
import Derived.Test.YtgkicojmgokinaaGreatDoorAsmRun0
namespace Go.Proofs.YtgkicojmgokinaaGreatDoor.Ab
open Go Go.RowKit
set_option linter.unusedVariables false
set_option linter.unusedSimpArgs false
set_option maxRecDepth 100000
noncomputable def rdΦ (Bt : Int → Int → Int → Int) (Im : Int → Int → Int) (Wd : RRow → Inst → Int) : Oracle := fun lo f args H => match f with
  | 42 => match args with
    | [] => some [(true, gs 14 rlit 69, H)]
    | _ => none
  | 48 => match args with
    | [.int .u32 x, .int .i64 l, .int .i64 n] => some [(isRB l n, .int .u32 (Bt x l n), H)]
    | _ => none
  | 49 => match args with
    | [.int .u8 c, .int .u32 w] => some [(isRF c, .int .u32 (Im c w), H)]
    | _ => none
  | 32 => match args with
    | [.agg ⟨[.int .i64 op, .string nm, .int .u32 opc, .int .u32 f3, .int .u32 f7, .bool h3, .bool h7, .int .u8 fmt, .bool ud, .bool ua, .bool ub, .bool uc, .int .u32 whole, .bool pr]⟩, .agg ⟨[.int .i64 op2, .int .i64 rd, .int .i64 rs1, .int .i64 rs2, .int .i64 csr, .int .u32 imm, .bool aq, .bool rl]⟩] => some [(isRow ⟨op, nm, opc, f3, f7, h3, h7, fmt, ud, ua, ub, uc, whole, pr⟩, .int .u32 (Wd ⟨op, nm, opc, f3, f7, h3, h7, fmt, ud, ua, ub, uc, whole, pr⟩ ⟨op2, rd, rs1, rs2, csr, imm, aq, rl⟩), H)]
    | _ => none
  | _ => none
theorem rdΦ_ok : CtxOK Tryz.prog (ctx (rdΦ bitV rimA (rwV rlyV))) := ctxOK fun lo f args H l v H' h hm => by
  unfold rdΦ at h
  split at h
  · split at h
    · cases h
      simp only [List.mem_cons, List.not_mem_nil, or_false, Prod.mk.injEq] at hm
      obtain ⟨hc, rfl, rfl⟩ := hm
      exact ⟨rrowsOK.call (fun a h => by cases h) lo H', rfl⟩
    · cases h
  · split at h
    · cases h
      simp only [List.mem_cons, List.not_mem_nil, or_false, Prod.mk.injEq] at hm
      obtain ⟨hc, rfl, rfl⟩ := hm
      exact ⟨(rbitsOK hc.symm).call (gh_plains rfl) lo H', rfl⟩
    · cases h
  · split at h
    · cases h
      simp only [List.mem_cons, List.not_mem_nil, or_false, Prod.mk.injEq] at hm
      obtain ⟨hc, rfl, rfl⟩ := hm
      exact ⟨(rmaOK hc.symm).call (gh_plains rfl) lo H', rfl⟩
    · cases h
  · split at h
    · cases h
      simp only [List.mem_cons, List.not_mem_nil, or_false, Prod.mk.injEq] at hm
      obtain ⟨hc, rfl, rfl⟩ := hm
      exact ⟨(rwOK (r := ⟨_, _, _, _, _, _, _, _, _, _, _, _, _, _⟩) (i := ⟨_, _, _, _, _, _, _, _⟩) hc.symm).call (gh_plains rfl) lo H', rfl⟩
    · cases h
  · cases h
noncomputable def rdB : Code := loopIn (flat (bodyOf 18))[3]?
theorem fn18 : sigOf 18 = some (78, [.cell 2 24, .tmp 3]) := by kernel_rfl
theorem rd_flat : flat (bodyOf 18) = (flat (bodyOf 18)).take 3 ++ ([.block 0 (.loop rdB)] ++ (flat (bodyOf 18)).drop 4) := by kernel_rfl
def rdK : List Nat := [0, 2, 3, 4, 5]
def qrF (w : Int) (k : Nat) (b : Bool) : Fr := [(0, .int .u32 w), (2, .pointer (some ⟨0, 0, none⟩)), (3, .bool b), (4, gs 14 rlit 69), (5, .int .i64 (k : Int))]
def qrH (i : Inst) : Heap := [some ⟨instC i, 24, none⟩]
/-- The instruction that a row reads from a word. -/
def rdI (Bt : Int → Int → Int → Int) (Im : Int → Int → Int) (r : RRow) (w : Int) (aq rl : Bool) : Inst :=
  ⟨r.op, bif r.ud then IntKind.i64.wrap (Bt w 7 5) else 0, bif r.ua then IntKind.i64.wrap (Bt w 15 5) else 0, bif r.ub then IntKind.i64.wrap (Bt w 20 5) else 0, bif r.uc then IntKind.i64.wrap (Bt w 20 12) else 0, Im r.fmt w, aq, rl⟩
def rdRet (w : Int) (k : Nat) (i : Inst) : Res := some (.ret, (qrF w k true).map (fun e => some e.2), qrH i)
def rdNx (w : Int) (k : Nat) : Res := some (.normal, (qrF w (k + 1) false).map (fun e => some e.2), qrH noInst)
def rdC (Bt : Int → Int → Int → Int) (Im : Int → Int → Int) (Wd : RRow → Inst → Int) (r : RRow) (w : Int) (k : Nat) (aq rl : Bool) : Res := bif Wd r (rdI Bt Im r w aq rl) == w then rdRet w k (rdI Bt Im r w aq rl) else rdNx w k
def rdR (Bt : Int → Int → Int → Int) (Im : Int → Int → Int) (Wd : RRow → Inst → Int) (w : Int) (k : Nat) : Res :=
  bif (rrowAt k).whole != 0 then (bif w == (rrowAt k).whole then rdRet w k ⟨(rrowAt k).op, 0, 0, 0, 0, 0, false, false⟩ else rdNx w k) else
  bif (rrowAt k).pr then (bif Bt w 26 1 == 1 then (bif Bt w 25 1 == 1 then rdC Bt Im Wd (rrowAt k) w k true true else rdC Bt Im Wd (rrowAt k) w k true false) else (bif Bt w 25 1 == 1 then rdC Bt Im Wd (rrowAt k) w k false true else rdC Bt Im Wd (rrowAt k) w k false false)) else
    rdC Bt Im Wd (rrowAt k) w k false false
noncomputable def rdL (Bt : Int → Int → Int → Int) (Im : Int → Int → Int) (Wd : RRow → Inst → Int) (l : List Code) (F : Fr) (H : Heap) : Res := runL ((ctx (rdΦ Bt Im Wd)).at_ 18) (callK (ctx (rdΦ Bt Im Wd)) 20) 20 0 78 18 (keeps 18) l F H (see rdK 1)
theorem rd_head (Bt : Int → Int → Int → Int) (Im : Int → Int → Int) (Wd : RRow → Inst → Int) (w : Int) : rdL Bt Im Wd ((flat (bodyOf 18)).take 3) (enterF 0 [.int .u32 w]) [] = some (.normal, (qrF w 0 false).map (fun e => some e.2), qrH noInst) := by kernel_rfl
theorem rd_end (Bt : Int → Int → Int → Int) (Im : Int → Int → Int) (Wd : RRow → Inst → Int) (w : Int) : rdL Bt Im Wd (flat rdB) (qrF w 69 false) (qrH noInst) = some (.exit 0, (qrF w 69 false).map (fun e => some e.2), qrH noInst) := by kernel_rfl
theorem rd_tail (Bt : Int → Int → Int → Int) (Im : Int → Int → Int) (Wd : RRow → Inst → Int) (w : Int) : rdL Bt Im Wd ((flat (bodyOf 18)).drop 4) (qrF w 69 false) (qrH noInst) = some (.ret, (qrF w 69 false).map (fun e => some e.2), qrH noInst) := by kernel_rfl
theorem rrnd0 (Bt : Int → Int → Int → Int) (Im : Int → Int → Int) (Wd : RRow → Inst → Int) (w : Int) : rdL Bt Im Wd (flat rdB) (qrF w 0 false) (qrH noInst) = rdR Bt Im Wd w 0 := by kernel_rfl
theorem rrnd1 (Bt : Int → Int → Int → Int) (Im : Int → Int → Int) (Wd : RRow → Inst → Int) (w : Int) : rdL Bt Im Wd (flat rdB) (qrF w 1 false) (qrH noInst) = rdR Bt Im Wd w 1 := by kernel_rfl
theorem rrnd2 (Bt : Int → Int → Int → Int) (Im : Int → Int → Int) (Wd : RRow → Inst → Int) (w : Int) : rdL Bt Im Wd (flat rdB) (qrF w 2 false) (qrH noInst) = rdR Bt Im Wd w 2 := by kernel_rfl
theorem rrnd3 (Bt : Int → Int → Int → Int) (Im : Int → Int → Int) (Wd : RRow → Inst → Int) (w : Int) : rdL Bt Im Wd (flat rdB) (qrF w 3 false) (qrH noInst) = rdR Bt Im Wd w 3 := by kernel_rfl
theorem rrnd4 (Bt : Int → Int → Int → Int) (Im : Int → Int → Int) (Wd : RRow → Inst → Int) (w : Int) : rdL Bt Im Wd (flat rdB) (qrF w 4 false) (qrH noInst) = rdR Bt Im Wd w 4 := by kernel_rfl
theorem rrnd5 (Bt : Int → Int → Int → Int) (Im : Int → Int → Int) (Wd : RRow → Inst → Int) (w : Int) : rdL Bt Im Wd (flat rdB) (qrF w 5 false) (qrH noInst) = rdR Bt Im Wd w 5 := by kernel_rfl
theorem rrnd6 (Bt : Int → Int → Int → Int) (Im : Int → Int → Int) (Wd : RRow → Inst → Int) (w : Int) : rdL Bt Im Wd (flat rdB) (qrF w 6 false) (qrH noInst) = rdR Bt Im Wd w 6 := by kernel_rfl
theorem rrnd7 (Bt : Int → Int → Int → Int) (Im : Int → Int → Int) (Wd : RRow → Inst → Int) (w : Int) : rdL Bt Im Wd (flat rdB) (qrF w 7 false) (qrH noInst) = rdR Bt Im Wd w 7 := by kernel_rfl
theorem rrnd8 (Bt : Int → Int → Int → Int) (Im : Int → Int → Int) (Wd : RRow → Inst → Int) (w : Int) : rdL Bt Im Wd (flat rdB) (qrF w 8 false) (qrH noInst) = rdR Bt Im Wd w 8 := by kernel_rfl
theorem rrnd9 (Bt : Int → Int → Int → Int) (Im : Int → Int → Int) (Wd : RRow → Inst → Int) (w : Int) : rdL Bt Im Wd (flat rdB) (qrF w 9 false) (qrH noInst) = rdR Bt Im Wd w 9 := by kernel_rfl
theorem rrnd10 (Bt : Int → Int → Int → Int) (Im : Int → Int → Int) (Wd : RRow → Inst → Int) (w : Int) : rdL Bt Im Wd (flat rdB) (qrF w 10 false) (qrH noInst) = rdR Bt Im Wd w 10 := by kernel_rfl
theorem rrnd11 (Bt : Int → Int → Int → Int) (Im : Int → Int → Int) (Wd : RRow → Inst → Int) (w : Int) : rdL Bt Im Wd (flat rdB) (qrF w 11 false) (qrH noInst) = rdR Bt Im Wd w 11 := by kernel_rfl
theorem rrnd12 (Bt : Int → Int → Int → Int) (Im : Int → Int → Int) (Wd : RRow → Inst → Int) (w : Int) : rdL Bt Im Wd (flat rdB) (qrF w 12 false) (qrH noInst) = rdR Bt Im Wd w 12 := by kernel_rfl
theorem rrnd13 (Bt : Int → Int → Int → Int) (Im : Int → Int → Int) (Wd : RRow → Inst → Int) (w : Int) : rdL Bt Im Wd (flat rdB) (qrF w 13 false) (qrH noInst) = rdR Bt Im Wd w 13 := by kernel_rfl
theorem rrnd14 (Bt : Int → Int → Int → Int) (Im : Int → Int → Int) (Wd : RRow → Inst → Int) (w : Int) : rdL Bt Im Wd (flat rdB) (qrF w 14 false) (qrH noInst) = rdR Bt Im Wd w 14 := by kernel_rfl
theorem rrnd15 (Bt : Int → Int → Int → Int) (Im : Int → Int → Int) (Wd : RRow → Inst → Int) (w : Int) : rdL Bt Im Wd (flat rdB) (qrF w 15 false) (qrH noInst) = rdR Bt Im Wd w 15 := by kernel_rfl
theorem rrnd16 (Bt : Int → Int → Int → Int) (Im : Int → Int → Int) (Wd : RRow → Inst → Int) (w : Int) : rdL Bt Im Wd (flat rdB) (qrF w 16 false) (qrH noInst) = rdR Bt Im Wd w 16 := by kernel_rfl
theorem rrnd17 (Bt : Int → Int → Int → Int) (Im : Int → Int → Int) (Wd : RRow → Inst → Int) (w : Int) : rdL Bt Im Wd (flat rdB) (qrF w 17 false) (qrH noInst) = rdR Bt Im Wd w 17 := by kernel_rfl
theorem rrnd18 (Bt : Int → Int → Int → Int) (Im : Int → Int → Int) (Wd : RRow → Inst → Int) (w : Int) : rdL Bt Im Wd (flat rdB) (qrF w 18 false) (qrH noInst) = rdR Bt Im Wd w 18 := by kernel_rfl
theorem rrnd19 (Bt : Int → Int → Int → Int) (Im : Int → Int → Int) (Wd : RRow → Inst → Int) (w : Int) : rdL Bt Im Wd (flat rdB) (qrF w 19 false) (qrH noInst) = rdR Bt Im Wd w 19 := by kernel_rfl
theorem rrnd20 (Bt : Int → Int → Int → Int) (Im : Int → Int → Int) (Wd : RRow → Inst → Int) (w : Int) : rdL Bt Im Wd (flat rdB) (qrF w 20 false) (qrH noInst) = rdR Bt Im Wd w 20 := by kernel_rfl
theorem rrnd21 (Bt : Int → Int → Int → Int) (Im : Int → Int → Int) (Wd : RRow → Inst → Int) (w : Int) : rdL Bt Im Wd (flat rdB) (qrF w 21 false) (qrH noInst) = rdR Bt Im Wd w 21 := by kernel_rfl
theorem rrnd22 (Bt : Int → Int → Int → Int) (Im : Int → Int → Int) (Wd : RRow → Inst → Int) (w : Int) : rdL Bt Im Wd (flat rdB) (qrF w 22 false) (qrH noInst) = rdR Bt Im Wd w 22 := by kernel_rfl
theorem rrnd23 (Bt : Int → Int → Int → Int) (Im : Int → Int → Int) (Wd : RRow → Inst → Int) (w : Int) : rdL Bt Im Wd (flat rdB) (qrF w 23 false) (qrH noInst) = rdR Bt Im Wd w 23 := by kernel_rfl
theorem rrnd24 (Bt : Int → Int → Int → Int) (Im : Int → Int → Int) (Wd : RRow → Inst → Int) (w : Int) : rdL Bt Im Wd (flat rdB) (qrF w 24 false) (qrH noInst) = rdR Bt Im Wd w 24 := by kernel_rfl
theorem rrnd25 (Bt : Int → Int → Int → Int) (Im : Int → Int → Int) (Wd : RRow → Inst → Int) (w : Int) : rdL Bt Im Wd (flat rdB) (qrF w 25 false) (qrH noInst) = rdR Bt Im Wd w 25 := by kernel_rfl
theorem rrnd26 (Bt : Int → Int → Int → Int) (Im : Int → Int → Int) (Wd : RRow → Inst → Int) (w : Int) : rdL Bt Im Wd (flat rdB) (qrF w 26 false) (qrH noInst) = rdR Bt Im Wd w 26 := by kernel_rfl
theorem rrnd27 (Bt : Int → Int → Int → Int) (Im : Int → Int → Int) (Wd : RRow → Inst → Int) (w : Int) : rdL Bt Im Wd (flat rdB) (qrF w 27 false) (qrH noInst) = rdR Bt Im Wd w 27 := by kernel_rfl
theorem rrnd28 (Bt : Int → Int → Int → Int) (Im : Int → Int → Int) (Wd : RRow → Inst → Int) (w : Int) : rdL Bt Im Wd (flat rdB) (qrF w 28 false) (qrH noInst) = rdR Bt Im Wd w 28 := by kernel_rfl
theorem rrnd29 (Bt : Int → Int → Int → Int) (Im : Int → Int → Int) (Wd : RRow → Inst → Int) (w : Int) : rdL Bt Im Wd (flat rdB) (qrF w 29 false) (qrH noInst) = rdR Bt Im Wd w 29 := by kernel_rfl
theorem rrnd30 (Bt : Int → Int → Int → Int) (Im : Int → Int → Int) (Wd : RRow → Inst → Int) (w : Int) : rdL Bt Im Wd (flat rdB) (qrF w 30 false) (qrH noInst) = rdR Bt Im Wd w 30 := by kernel_rfl
theorem rrnd31 (Bt : Int → Int → Int → Int) (Im : Int → Int → Int) (Wd : RRow → Inst → Int) (w : Int) : rdL Bt Im Wd (flat rdB) (qrF w 31 false) (qrH noInst) = rdR Bt Im Wd w 31 := by kernel_rfl
theorem rrnd32 (Bt : Int → Int → Int → Int) (Im : Int → Int → Int) (Wd : RRow → Inst → Int) (w : Int) : rdL Bt Im Wd (flat rdB) (qrF w 32 false) (qrH noInst) = rdR Bt Im Wd w 32 := by kernel_rfl
theorem rrnd33 (Bt : Int → Int → Int → Int) (Im : Int → Int → Int) (Wd : RRow → Inst → Int) (w : Int) : rdL Bt Im Wd (flat rdB) (qrF w 33 false) (qrH noInst) = rdR Bt Im Wd w 33 := by kernel_rfl
theorem rrnd34 (Bt : Int → Int → Int → Int) (Im : Int → Int → Int) (Wd : RRow → Inst → Int) (w : Int) : rdL Bt Im Wd (flat rdB) (qrF w 34 false) (qrH noInst) = rdR Bt Im Wd w 34 := by kernel_rfl
theorem rrnd35 (Bt : Int → Int → Int → Int) (Im : Int → Int → Int) (Wd : RRow → Inst → Int) (w : Int) : rdL Bt Im Wd (flat rdB) (qrF w 35 false) (qrH noInst) = rdR Bt Im Wd w 35 := by kernel_rfl
theorem rrnd36 (Bt : Int → Int → Int → Int) (Im : Int → Int → Int) (Wd : RRow → Inst → Int) (w : Int) : rdL Bt Im Wd (flat rdB) (qrF w 36 false) (qrH noInst) = rdR Bt Im Wd w 36 := by kernel_rfl
theorem rrnd37 (Bt : Int → Int → Int → Int) (Im : Int → Int → Int) (Wd : RRow → Inst → Int) (w : Int) : rdL Bt Im Wd (flat rdB) (qrF w 37 false) (qrH noInst) = rdR Bt Im Wd w 37 := by kernel_rfl
theorem rrnd38 (Bt : Int → Int → Int → Int) (Im : Int → Int → Int) (Wd : RRow → Inst → Int) (w : Int) : rdL Bt Im Wd (flat rdB) (qrF w 38 false) (qrH noInst) = rdR Bt Im Wd w 38 := by kernel_rfl
theorem rrnd39 (Bt : Int → Int → Int → Int) (Im : Int → Int → Int) (Wd : RRow → Inst → Int) (w : Int) : rdL Bt Im Wd (flat rdB) (qrF w 39 false) (qrH noInst) = rdR Bt Im Wd w 39 := by kernel_rfl
theorem rrnd40 (Bt : Int → Int → Int → Int) (Im : Int → Int → Int) (Wd : RRow → Inst → Int) (w : Int) : rdL Bt Im Wd (flat rdB) (qrF w 40 false) (qrH noInst) = rdR Bt Im Wd w 40 := by kernel_rfl
theorem rrnd41 (Bt : Int → Int → Int → Int) (Im : Int → Int → Int) (Wd : RRow → Inst → Int) (w : Int) : rdL Bt Im Wd (flat rdB) (qrF w 41 false) (qrH noInst) = rdR Bt Im Wd w 41 := by kernel_rfl
theorem rrnd42 (Bt : Int → Int → Int → Int) (Im : Int → Int → Int) (Wd : RRow → Inst → Int) (w : Int) : rdL Bt Im Wd (flat rdB) (qrF w 42 false) (qrH noInst) = rdR Bt Im Wd w 42 := by kernel_rfl
theorem rrnd43 (Bt : Int → Int → Int → Int) (Im : Int → Int → Int) (Wd : RRow → Inst → Int) (w : Int) : rdL Bt Im Wd (flat rdB) (qrF w 43 false) (qrH noInst) = rdR Bt Im Wd w 43 := by kernel_rfl
theorem rrnd44 (Bt : Int → Int → Int → Int) (Im : Int → Int → Int) (Wd : RRow → Inst → Int) (w : Int) : rdL Bt Im Wd (flat rdB) (qrF w 44 false) (qrH noInst) = rdR Bt Im Wd w 44 := by kernel_rfl
theorem rrnd45 (Bt : Int → Int → Int → Int) (Im : Int → Int → Int) (Wd : RRow → Inst → Int) (w : Int) : rdL Bt Im Wd (flat rdB) (qrF w 45 false) (qrH noInst) = rdR Bt Im Wd w 45 := by kernel_rfl
theorem rrnd46 (Bt : Int → Int → Int → Int) (Im : Int → Int → Int) (Wd : RRow → Inst → Int) (w : Int) : rdL Bt Im Wd (flat rdB) (qrF w 46 false) (qrH noInst) = rdR Bt Im Wd w 46 := by kernel_rfl
theorem rrnd47 (Bt : Int → Int → Int → Int) (Im : Int → Int → Int) (Wd : RRow → Inst → Int) (w : Int) : rdL Bt Im Wd (flat rdB) (qrF w 47 false) (qrH noInst) = rdR Bt Im Wd w 47 := by kernel_rfl
theorem rrnd48 (Bt : Int → Int → Int → Int) (Im : Int → Int → Int) (Wd : RRow → Inst → Int) (w : Int) : rdL Bt Im Wd (flat rdB) (qrF w 48 false) (qrH noInst) = rdR Bt Im Wd w 48 := by kernel_rfl
theorem rrnd49 (Bt : Int → Int → Int → Int) (Im : Int → Int → Int) (Wd : RRow → Inst → Int) (w : Int) : rdL Bt Im Wd (flat rdB) (qrF w 49 false) (qrH noInst) = rdR Bt Im Wd w 49 := by kernel_rfl
theorem rrnd50 (Bt : Int → Int → Int → Int) (Im : Int → Int → Int) (Wd : RRow → Inst → Int) (w : Int) : rdL Bt Im Wd (flat rdB) (qrF w 50 false) (qrH noInst) = rdR Bt Im Wd w 50 := by kernel_rfl
theorem rrnd51 (Bt : Int → Int → Int → Int) (Im : Int → Int → Int) (Wd : RRow → Inst → Int) (w : Int) : rdL Bt Im Wd (flat rdB) (qrF w 51 false) (qrH noInst) = rdR Bt Im Wd w 51 := by kernel_rfl
theorem rrnd52 (Bt : Int → Int → Int → Int) (Im : Int → Int → Int) (Wd : RRow → Inst → Int) (w : Int) : rdL Bt Im Wd (flat rdB) (qrF w 52 false) (qrH noInst) = rdR Bt Im Wd w 52 := by kernel_rfl
theorem rrnd53 (Bt : Int → Int → Int → Int) (Im : Int → Int → Int) (Wd : RRow → Inst → Int) (w : Int) : rdL Bt Im Wd (flat rdB) (qrF w 53 false) (qrH noInst) = rdR Bt Im Wd w 53 := by kernel_rfl
theorem rrnd54 (Bt : Int → Int → Int → Int) (Im : Int → Int → Int) (Wd : RRow → Inst → Int) (w : Int) : rdL Bt Im Wd (flat rdB) (qrF w 54 false) (qrH noInst) = rdR Bt Im Wd w 54 := by kernel_rfl
theorem rrnd55 (Bt : Int → Int → Int → Int) (Im : Int → Int → Int) (Wd : RRow → Inst → Int) (w : Int) : rdL Bt Im Wd (flat rdB) (qrF w 55 false) (qrH noInst) = rdR Bt Im Wd w 55 := by kernel_rfl
theorem rrnd56 (Bt : Int → Int → Int → Int) (Im : Int → Int → Int) (Wd : RRow → Inst → Int) (w : Int) : rdL Bt Im Wd (flat rdB) (qrF w 56 false) (qrH noInst) = rdR Bt Im Wd w 56 := by kernel_rfl
theorem rrnd57 (Bt : Int → Int → Int → Int) (Im : Int → Int → Int) (Wd : RRow → Inst → Int) (w : Int) : rdL Bt Im Wd (flat rdB) (qrF w 57 false) (qrH noInst) = rdR Bt Im Wd w 57 := by kernel_rfl
theorem rrnd58 (Bt : Int → Int → Int → Int) (Im : Int → Int → Int) (Wd : RRow → Inst → Int) (w : Int) : rdL Bt Im Wd (flat rdB) (qrF w 58 false) (qrH noInst) = rdR Bt Im Wd w 58 := by kernel_rfl
theorem rrnd59 (Bt : Int → Int → Int → Int) (Im : Int → Int → Int) (Wd : RRow → Inst → Int) (w : Int) : rdL Bt Im Wd (flat rdB) (qrF w 59 false) (qrH noInst) = rdR Bt Im Wd w 59 := by kernel_rfl
theorem rrnd60 (Bt : Int → Int → Int → Int) (Im : Int → Int → Int) (Wd : RRow → Inst → Int) (w : Int) : rdL Bt Im Wd (flat rdB) (qrF w 60 false) (qrH noInst) = rdR Bt Im Wd w 60 := by kernel_rfl
theorem rrnd61 (Bt : Int → Int → Int → Int) (Im : Int → Int → Int) (Wd : RRow → Inst → Int) (w : Int) : rdL Bt Im Wd (flat rdB) (qrF w 61 false) (qrH noInst) = rdR Bt Im Wd w 61 := by kernel_rfl
theorem rrnd62 (Bt : Int → Int → Int → Int) (Im : Int → Int → Int) (Wd : RRow → Inst → Int) (w : Int) : rdL Bt Im Wd (flat rdB) (qrF w 62 false) (qrH noInst) = rdR Bt Im Wd w 62 := by kernel_rfl
theorem rrnd63 (Bt : Int → Int → Int → Int) (Im : Int → Int → Int) (Wd : RRow → Inst → Int) (w : Int) : rdL Bt Im Wd (flat rdB) (qrF w 63 false) (qrH noInst) = rdR Bt Im Wd w 63 := by kernel_rfl
theorem rrnd64 (Bt : Int → Int → Int → Int) (Im : Int → Int → Int) (Wd : RRow → Inst → Int) (w : Int) : rdL Bt Im Wd (flat rdB) (qrF w 64 false) (qrH noInst) = rdR Bt Im Wd w 64 := by kernel_rfl
theorem rrnd65 (Bt : Int → Int → Int → Int) (Im : Int → Int → Int) (Wd : RRow → Inst → Int) (w : Int) : rdL Bt Im Wd (flat rdB) (qrF w 65 false) (qrH noInst) = rdR Bt Im Wd w 65 := by kernel_rfl
theorem rrnd66 (Bt : Int → Int → Int → Int) (Im : Int → Int → Int) (Wd : RRow → Inst → Int) (w : Int) : rdL Bt Im Wd (flat rdB) (qrF w 66 false) (qrH noInst) = rdR Bt Im Wd w 66 := by kernel_rfl
theorem rrnd67 (Bt : Int → Int → Int → Int) (Im : Int → Int → Int) (Wd : RRow → Inst → Int) (w : Int) : rdL Bt Im Wd (flat rdB) (qrF w 67 false) (qrH noInst) = rdR Bt Im Wd w 67 := by kernel_rfl
theorem rrnd68 (Bt : Int → Int → Int → Int) (Im : Int → Int → Int) (Wd : RRow → Inst → Int) (w : Int) : rdL Bt Im Wd (flat rdB) (qrF w 68 false) (qrH noInst) = rdR Bt Im Wd w 68 := by kernel_rfl
theorem rrnd (Bt : Int → Int → Int → Int) (Im : Int → Int → Int) (Wd : RRow → Inst → Int) (w : Int) : ∀ k : Nat, k < 69 → rdL Bt Im Wd (flat rdB) (qrF w k false) (qrH noInst) = rdR Bt Im Wd w k
  | 0, _ => rrnd0 Bt Im Wd w
  | 1, _ => rrnd1 Bt Im Wd w
  | 2, _ => rrnd2 Bt Im Wd w
  | 3, _ => rrnd3 Bt Im Wd w
  | 4, _ => rrnd4 Bt Im Wd w
  | 5, _ => rrnd5 Bt Im Wd w
  | 6, _ => rrnd6 Bt Im Wd w
  | 7, _ => rrnd7 Bt Im Wd w
  | 8, _ => rrnd8 Bt Im Wd w
  | 9, _ => rrnd9 Bt Im Wd w
  | 10, _ => rrnd10 Bt Im Wd w
  | 11, _ => rrnd11 Bt Im Wd w
  | 12, _ => rrnd12 Bt Im Wd w
  | 13, _ => rrnd13 Bt Im Wd w
  | 14, _ => rrnd14 Bt Im Wd w
  | 15, _ => rrnd15 Bt Im Wd w
  | 16, _ => rrnd16 Bt Im Wd w
  | 17, _ => rrnd17 Bt Im Wd w
  | 18, _ => rrnd18 Bt Im Wd w
  | 19, _ => rrnd19 Bt Im Wd w
  | 20, _ => rrnd20 Bt Im Wd w
  | 21, _ => rrnd21 Bt Im Wd w
  | 22, _ => rrnd22 Bt Im Wd w
  | 23, _ => rrnd23 Bt Im Wd w
  | 24, _ => rrnd24 Bt Im Wd w
  | 25, _ => rrnd25 Bt Im Wd w
  | 26, _ => rrnd26 Bt Im Wd w
  | 27, _ => rrnd27 Bt Im Wd w
  | 28, _ => rrnd28 Bt Im Wd w
  | 29, _ => rrnd29 Bt Im Wd w
  | 30, _ => rrnd30 Bt Im Wd w
  | 31, _ => rrnd31 Bt Im Wd w
  | 32, _ => rrnd32 Bt Im Wd w
  | 33, _ => rrnd33 Bt Im Wd w
  | 34, _ => rrnd34 Bt Im Wd w
  | 35, _ => rrnd35 Bt Im Wd w
  | 36, _ => rrnd36 Bt Im Wd w
  | 37, _ => rrnd37 Bt Im Wd w
  | 38, _ => rrnd38 Bt Im Wd w
  | 39, _ => rrnd39 Bt Im Wd w
  | 40, _ => rrnd40 Bt Im Wd w
  | 41, _ => rrnd41 Bt Im Wd w
  | 42, _ => rrnd42 Bt Im Wd w
  | 43, _ => rrnd43 Bt Im Wd w
  | 44, _ => rrnd44 Bt Im Wd w
  | 45, _ => rrnd45 Bt Im Wd w
  | 46, _ => rrnd46 Bt Im Wd w
  | 47, _ => rrnd47 Bt Im Wd w
  | 48, _ => rrnd48 Bt Im Wd w
  | 49, _ => rrnd49 Bt Im Wd w
  | 50, _ => rrnd50 Bt Im Wd w
  | 51, _ => rrnd51 Bt Im Wd w
  | 52, _ => rrnd52 Bt Im Wd w
  | 53, _ => rrnd53 Bt Im Wd w
  | 54, _ => rrnd54 Bt Im Wd w
  | 55, _ => rrnd55 Bt Im Wd w
  | 56, _ => rrnd56 Bt Im Wd w
  | 57, _ => rrnd57 Bt Im Wd w
  | 58, _ => rrnd58 Bt Im Wd w
  | 59, _ => rrnd59 Bt Im Wd w
  | 60, _ => rrnd60 Bt Im Wd w
  | 61, _ => rrnd61 Bt Im Wd w
  | 62, _ => rrnd62 Bt Im Wd w
  | 63, _ => rrnd63 Bt Im Wd w
  | 64, _ => rrnd64 Bt Im Wd w
  | 65, _ => rrnd65 Bt Im Wd w
  | 66, _ => rrnd66 Bt Im Wd w
  | 67, _ => rrnd67 Bt Im Wd w
  | 68, _ => rrnd68 Bt Im Wd w
  | n + 69, h => absurd h (by omega)
/-- Whether a word is of a row, and the instruction then. -/
def rfit (w : Int) (r : RRow) : Bool := bif r.whole != 0 then w == r.whole else rwV rlyV r (rdI bitV rimA r w (r.pr && bitV w 26 1 == 1) (r.pr && bitV w 25 1 == 1)) == w
def rins (w : Int) (r : RRow) : Inst := bif r.whole != 0 then ⟨r.op, 0, 0, 0, 0, 0, false, false⟩ else rdI bitV rimA r w (r.pr && bitV w 26 1 == 1) (r.pr && bitV w 25 1 == 1)
theorem rdR_eq (w : Int) (k : Nat) : rdR bitV rimA (rwV rlyV) w k = bif rfit w (rrowAt k) then rdRet w k (rins w (rrowAt k)) else rdNx w k := by
  unfold rdR rfit rins rdC
  cases ((rrowAt k).whole != 0)
  · simp only [cond_false]
    cases (rrowAt k).pr
    · simp only [Bool.false_and]; rfl
    · simp only [Bool.true_and, cond_true]
      cases (bitV w 26 1 == 1) <;> cases (bitV w 25 1 == 1) <;> rfl
  · rfl
def rdecL : List RRow → Int → Inst × Bool
  | [], _ => (noInst, false)
  | r :: l, w => bif rfit w r then (rins w r, true) else rdecL l w
/-- The document's Decode. -/
def rdec (w : Int) : Inst × Bool := rdecL rtable w
theorem rdecL_find (w : Int) : ∀ (l : List RRow) (m : Nat), m ≤ l.length → (∀ k, k < m → rfit w (l.getD k noRow) = false) → (m < l.length → rfit w (l.getD m noRow) = true) →
    rdecL l w = if m < l.length then (rins w (l.getD m noRow), true) else (noInst, false)
  | [], m, hm, h1, h2 => by simp [rdecL]
  | r :: l, 0, hm, h1, h2 => by
    have := h2 (by simp)
    simp only [List.getD_cons_zero] at this
    simp [rdecL, this]
  | r :: l, m + 1, hm, h1, h2 => by
    have h0 := h1 0 (by omega)
    simp only [List.getD_cons_zero] at h0
    have ih := rdecL_find w l m (by simpa using hm) (fun k hk => by have := h1 (k + 1) (by omega); simpa only [List.getD_cons_succ] using this) (fun hk => by have := h2 (by simpa using hk); simpa only [List.getD_cons_succ] using this)
    simp only [rdecL, h0, cond_false, ih, List.length_cons, Nat.add_lt_add_iff_right, List.getD_cons_succ]
theorem rdF_tr (w : Int) (k : Nat) (b : Bool) : ∀ x ∈ qrF w k b, Tr 1 x.2 := by
  intro x hx
  simp only [qrF, List.mem_cons, List.not_mem_nil, or_false] at hx
  rcases hx with rfl | rfl | rfl | rfl | rfl
  · exact Tr.plain rfl
  · exact Tr.ptr (by omega)
  · exact Tr.plain rfl
  · exact Tr.gh (Gh.gs rlit_gh)
  · exact Tr.plain rfl
theorem rdH_tr (i : Inst) : ∀ b, some b ∈ qrH i → b.view = none ∧ ∀ x ∈ b.cells, Tr 1 x := by
  intro b hb
  simp only [qrH, List.mem_cons, List.not_mem_nil, or_false, Option.some.injEq] at hb
  subst hb
  exact ⟨rfl, fun x hx => Tr.plain (List.all_eq_true.1 (show (instC i).all plain = true from rfl) x hx)⟩
theorem rdecode_call (w : Int) : ∃ H', CallOK Tryz.prog 0 18 [.int .u32 w] [] (.tuple ⟨[instV (rdec w).1, .bool (rdec w).2]⟩) H' := by
  obtain ⟨m, h1, h2, h3⟩ := Isa.first (fun k => rfit w (rrowAt k)) 69
  have hdec : rdec w = if m < 69 then (rins w (rrowAt m), true) else (noInst, false) := rdecL_find w rtable m h1 h2 h3
  have hdB : (flat rdB).all (drawsOK ((ctx (rdΦ bitV rimA (rwV rlyV))).dr 18)) = true := by kernel_rfl
  have hd1 : ((flat (bodyOf 18)).take 3).all (drawsOK ((ctx (rdΦ bitV rimA (rwV rlyV))).dr 18)) = true := by kernel_rfl
  have hd2 : ((flat (bodyOf 18)).drop 4).all (drawsOK ((ctx (rdΦ bitV rimA (rwV rlyV))).dr 18)) = true := by kernel_rfl
  have hhead := RowOK.of_see rdΦ_ok (m := 20) (j := 20) (f := 18) (p := keeps 18) (lo := 0) (n := 78) (ts := rdK) rfl hd1 (rd_head bitV rimA (rwV rlyV) w) (by simp) rfl (rdF_tr w 0 false) (rdH_tr noInst)
  have hround : ∀ k, k < m → CodeOK Tryz.prog 0 78 rdB (qrF w k false) (qrH noInst) .normal (qrF w (k + 1) false) (qrH noInst) := fun k hk => by
    have hr := rrnd bitV rimA (rwV rlyV) w k (by omega)
    rw [rdR_eq, show rfit w (rrowAt k) = false from h2 k hk, cond_false] at hr
    exact (RowOK.of_see rdΦ_ok (m := 20) (j := 20) (f := 18) (p := keeps 18) (lo := 0) (n := 78) (ts := rdK) rfl hdB hr (by simp [qrH]) rfl (rdF_tr w (k + 1) false) (rdH_tr noInst)).code
  obtain ⟨fn, f1, f2, f3, f4⟩ := fnOf fn18
  by_cases hm : m < 69
  · have hret : CodeOK Tryz.prog 0 78 rdB (qrF w m false) (qrH noInst) .ret (qrF w m true) (qrH (rins w (rrowAt m))) := by
      have hr := rrnd bitV rimA (rwV rlyV) w m hm
      rw [rdR_eq, show rfit w (rrowAt m) = true from h3 hm, cond_true] at hr
      exact (RowOK.of_see rdΦ_ok (m := 20) (j := 20) (f := 18) (p := keeps 18) (lo := 0) (n := 78) (ts := rdK) rfl hdB hr (by simp [qrH]) rfl (rdF_tr w m true) (rdH_tr _)).code
    have hloop := CodeOK.loop (fun k => qrF w k false) (fun _ => qrH noInst) m (by simp) hround hret
    have hall := hhead.app (RowOK.left (CodeOK.row (CodeOK.block (id := 0) hloop)) (by simp [outOf]) ((flat (bodyOf 18)).drop 4))
    rw [← rd_flat] at hall
    have hcall := CallOK.of_code rdΦ_ok (f := 18) (fn := fn) (c := bodyOf 18) (args := [.int .u32 w]) (show (ctx (rdΦ bitV rimA (rwV rlyV))).Fn 18 = some fn from f1) f2 (by rw [f3]; simp) (by rw [f3]; exact hall.code) (.inr rfl) (l := [instV (rdec w).1, .bool (rdec w).2]) (by
      rw [f4, hdec, if_pos hm]
      rfl)
    exact ⟨_, hcall⟩
  · obtain rfl : m = 69 := by omega
    have hend := (RowOK.of_see rdΦ_ok (m := 20) (j := 20) (f := 18) (p := keeps 18) (lo := 0) (n := 78) (ts := rdK) rfl hdB (rd_end bitV rimA (rwV rlyV) w) (by simp [qrH]) rfl (rdF_tr w 69 false) (rdH_tr noInst)).code
    have htail := RowOK.of_see rdΦ_ok (m := 20) (j := 20) (f := 18) (p := keeps 18) (lo := 0) (n := 78) (ts := rdK) rfl hd2 (rd_tail bitV rimA (rwV rlyV) w) (by simp [qrH]) rfl (rdF_tr w 69 false) (rdH_tr noInst)
    have hloop := CodeOK.loop (fun k => qrF w k false) (fun _ => qrH noInst) 69 (by simp) hround hend
    have hall := hhead.app (RowOK.app (CodeOK.row (CodeOK.block (id := 0) hloop)) htail)
    rw [← rd_flat] at hall
    have hcall := CallOK.of_code rdΦ_ok (f := 18) (fn := fn) (c := bodyOf 18) (args := [.int .u32 w]) (show (ctx (rdΦ bitV rimA (rwV rlyV))).Fn 18 = some fn from f1) f2 (by rw [f3]; simp) (by rw [f3]; exact hall.code) (.inr rfl) (l := [instV (rdec w).1, .bool (rdec w).2]) (by
      rw [f4, hdec, if_neg hm]
      rfl)
    exact ⟨_, hcall⟩
theorem rdecodeOK (w : Int) : PureOK Tryz.prog 18 [.int .u32 w] (.tuple ⟨[instV (rdec w).1, .bool (rdec w).2]⟩) := by
  obtain ⟨H', h⟩ := rdecode_call w
  exact PureOK.of_call h (Gh.plain rfl)
end Go.Proofs.YtgkicojmgokinaaGreatDoor.Ab
