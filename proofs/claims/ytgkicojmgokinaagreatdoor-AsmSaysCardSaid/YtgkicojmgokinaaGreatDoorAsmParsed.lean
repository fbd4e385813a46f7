/- Trimmed: AsmParsed -/
import Derived.Test.YtgkicojmgokinaaGreatDoorAsmFilled
namespace Go.Proofs.YtgkicojmgokinaaGreatDoor.Ab
open Go Go.RowKit
set_option linter.unusedVariables false
set_option linter.unusedSimpArgs false
set_option maxRecDepth 100000
def splC (s p : ByteArray) : List Value := (splitL (bytes s) (bytes p)).map sv
def splN (s p : ByteArray) : Nat := (splitL (bytes s) (bytes p)).length
def splG (s p : ByteArray) : Bool := ln s && decide (1 ≤ p.size)
theorem splCall {s p : ByteArray} (h : splG s p = true) (lo : Nat) (H : Heap) : CallOK Tryz.prog lo 40 [.string s, .string p] H (gs 1 (splC s p) (splN s p)) H := by
  unfold splG at h
  rw [Bool.and_eq_true, decide_eq_true_eq] at h
  exact (splitOK (bytes s) (bytes p) (ln_lt h.1) h.2).call (gh_plains rfl) lo H
def opN (s : ByteArray) : Int := opF (bytes s)
theorem opCall (s : ByteArray) (lo : Nat) (H : Heap) : CallOK Tryz.prog lo 38 [.string s] H (.int .i64 (opN s)) H := (opOK (bytes s)).call (gh_plains rfl) lo H
def textS (i : Inst) : ByteArray := bs (textL i)
theorem print0 {i : Inst} (h : Nat.beq (encE i) 0 = true) (lo : Nat) (H : Heap) : CallOK Tryz.prog lo 9 [instV i] H (.tuple #[.string (textS i), .nilIface]) H := by
  have := (printOK i).call (gh_plains rfl) lo H
  unfold printV at this
  rwa [h, cond_true] at this
theorem printg {i : Inst} {g : Nat} (h : Nat.beq (encE i) g = true) (hg : 1 ≤ g) (lo : Nat) (H : Heap) : CallOK Tryz.prog lo 9 [instV i] H (.tuple #[sv [], errV g]) H := by
  have := (printOK i).call (gh_plains rfl) lo H
  have e := Nat.eq_of_beq_eq_true h
  unfold printV at this
  rwa [e, show Nat.beq g 0 = false by cases g with | zero => omega | succ n => rfl, cond_false] at this
noncomputable def parseΦ (C1 C2 : ByteArray → ByteArray → ByteArray) (C3 : ByteArray → ByteArray → Bool) (S1 : ByteArray → ByteArray → ByteArray) (S2 : ByteArray → ByteArray → Bool) (Oo : ByteArray → Int) (Sp : ByteArray → ByteArray → List Value) (Sn : ByteArray → ByteArray → Nat) (Sg : ByteArray → ByteArray → Bool) (Fi : Value → Inst → Inst) (Fb : Value → Inst → Bool) (Fl : Value → Inst → Value) (Fg : Value → Inst → Bool) (Pe : Inst → Nat) (Pt : Inst → ByteArray) : Oracle := fun lo f args H => match f with
  | 37 => match args with
    | [.string s, .string p] => some [(ln s, .tuple #[.string (C1 s p), .string (C2 s p), .bool (C3 s p)], H)]
    | _ => none
  | 38 => match args with
    | [.string s] => some [(true, .int .i64 (Oo s), H)]
    | _ => none
  | 39 => match args with
    | [.string s, .string p] => some [(ln s, .tuple #[.string (S1 s p), .bool (S2 s p)], H)]
    | _ => none
  | 40 => match args with
    | [.string s, .string p] => some [(Sg s p, gs 1 (Sp s p) (Sn s p), H)]
    | _ => none
  | 41 => match args, H with
    | [.pointer (some ⟨2, 0, none⟩), .pointer (some ⟨1, 0, none⟩)], [A, some ⟨[.int .i64 op, .int .i64 rd, .int .i64 rs1, .int .i64 rs2, .int .i64 csr, .int .u32 imm, .bool aq, .bool rl], 24, none⟩, some ⟨[l, .bool b], 80, none⟩] => some [(Nat.beq lo 0 && Fg l ⟨op, rd, rs1, rs2, csr, imm, aq, rl⟩, .tuple #[], [A, some ⟨instC (Fi l ⟨op, rd, rs1, rs2, csr, imm, aq, rl⟩), 24, none⟩, some ⟨[Fl l ⟨op, rd, rs1, rs2, csr, imm, aq, rl⟩, .bool (b || Fb l ⟨op, rd, rs1, rs2, csr, imm, aq, rl⟩)], 80, none⟩])]
    | _, _ => none
  | 9 => match args with
    | [.agg ⟨[.int .i64 op, .int .i64 rd, .int .i64 rs1, .int .i64 rs2, .int .i64 csr, .int .u32 imm, .bool aq, .bool rl]⟩] => some [(Nat.beq (Pe ⟨op, rd, rs1, rs2, csr, imm, aq, rl⟩) 0, .tuple #[.string (Pt ⟨op, rd, rs1, rs2, csr, imm, aq, rl⟩), .nilIface], H), (Nat.beq (Pe ⟨op, rd, rs1, rs2, csr, imm, aq, rl⟩) 1, .tuple #[sv [], errV 1], H), (Nat.beq (Pe ⟨op, rd, rs1, rs2, csr, imm, aq, rl⟩) 2, .tuple #[sv [], errV 2], H), (Nat.beq (Pe ⟨op, rd, rs1, rs2, csr, imm, aq, rl⟩) 3, .tuple #[sv [], errV 3], H)]
    | _ => none
  | _ => none
theorem parseΦ_ok : CtxOK Tryz.prog (ctx (parseΦ cut1 cut2 cut3 sufS sufB opN splC splN splG fiV fbV flV fgV encE textS)) := ctxOK fun lo f args H l v H' h hm => by
  unfold parseΦ at h
  split at h
  · split at h
    · cases h
      simp only [List.mem_cons, List.not_mem_nil, or_false, Prod.mk.injEq] at hm
      obtain ⟨hc, rfl, rfl⟩ := hm
      exact ⟨cutCall hc.symm lo H', rfl⟩
    · cases h
  · split at h
    · cases h
      simp only [List.mem_cons, List.not_mem_nil, or_false, Prod.mk.injEq] at hm
      obtain ⟨hc, rfl, rfl⟩ := hm
      exact ⟨opCall _ lo H', rfl⟩
    · cases h
  · split at h
    · cases h
      simp only [List.mem_cons, List.not_mem_nil, or_false, Prod.mk.injEq] at hm
      obtain ⟨hc, rfl, rfl⟩ := hm
      exact ⟨sufCall hc.symm lo H', rfl⟩
    · cases h
  · split at h
    · cases h
      simp only [List.mem_cons, List.not_mem_nil, or_false, Prod.mk.injEq] at hm
      obtain ⟨hc, rfl, rfl⟩ := hm
      exact ⟨splCall hc.symm lo H', rfl⟩
    · cases h
  · split at h
    · cases h
      simp only [List.mem_cons, List.not_mem_nil, or_false, Prod.mk.injEq] at hm
      obtain ⟨hc, rfl, rfl⟩ := hm
      exact ⟨fillCall hc.symm _ _, rfl⟩
    · cases h
  · split at h
    · cases h
      simp only [List.mem_cons, List.not_mem_nil, or_false, Prod.mk.injEq] at hm
      rcases hm with ⟨hc, rfl, rfl⟩ | ⟨hc, rfl, rfl⟩ | ⟨hc, rfl, rfl⟩ | ⟨hc, rfl, rfl⟩
      · exact ⟨print0 hc.symm lo H', rfl⟩
      · exact ⟨printg hc.symm (by decide) lo H', rfl⟩
      · exact ⟨printg hc.symm (by decide) lo H', rfl⟩
      · exact ⟨printg hc.symm (by decide) lo H', rfl⟩
    · cases h
  · cases h
def parseT (C1 C2 : ByteArray → ByteArray → ByteArray) (C3 : ByteArray → ByteArray → Bool) (S1 : ByteArray → ByteArray → ByteArray) (S2 : ByteArray → ByteArray → Bool) (Oo : ByteArray → Int) (Sp : ByteArray → ByteArray → List Value) (Sn : ByteArray → ByteArray → Nat) (Sg : ByteArray → ByteArray → Bool) (Fi : Value → Inst → Inst) (Fb : Value → Inst → Bool) (Fl : Value → Inst → Value) (Fg : Value → Inst → Bool) (Pe : Inst → Nat) (Pt : Inst → ByteArray) (s : ByteArray) : Option Value := bif ln s then (bif C3 s csp then (bif Oo (C1 s csp) == 0 then (bif ln (C1 s csp) then (bif S2 (C1 s csp) crl then (bif ln (S1 (C1 s csp) crl) then (bif S2 (S1 (C1 s csp) crl) caq then (bif Sg (C2 s csp) ccs then (bif Oo (S1 (S1 (C1 s csp) crl) caq) == 0 then some (.tuple #[instV noInst, errV 0]) else (bif Fg (gs 1 (Sp (C2 s csp) ccs) (Sn (C2 s csp) ccs)) ⟨Oo (S1 (S1 (C1 s csp) crl) caq), 0, 0, 0, 0, 0, true, true⟩ then (bif Nat.beq (Pe (Fi (gs 1 (Sp (C2 s csp) ccs) (Sn (C2 s csp) ccs)) ⟨Oo (S1 (S1 (C1 s csp) crl) caq), 0, 0, 0, 0, 0, true, true⟩)) 0 then (bif Fb (gs 1 (Sp (C2 s csp) ccs) (Sn (C2 s csp) ccs)) ⟨Oo (S1 (S1 (C1 s csp) crl) caq), 0, 0, 0, 0, 0, true, true⟩ then some (.tuple #[instV noInst, errV 0]) else bif !((Pt (Fi (gs 1 (Sp (C2 s csp) ccs) (Sn (C2 s csp) ccs)) ⟨Oo (S1 (S1 (C1 s csp) crl) caq), 0, 0, 0, 0, 0, true, true⟩)).toList == s.toList) then some (.tuple #[instV noInst, errV 0]) else some (.tuple #[instV (Fi (gs 1 (Sp (C2 s csp) ccs) (Sn (C2 s csp) ccs)) ⟨Oo (S1 (S1 (C1 s csp) crl) caq), 0, 0, 0, 0, 0, true, true⟩), .nilIface])) else bif Nat.beq (Pe (Fi (gs 1 (Sp (C2 s csp) ccs) (Sn (C2 s csp) ccs)) ⟨Oo (S1 (S1 (C1 s csp) crl) caq), 0, 0, 0, 0, 0, true, true⟩)) 1 then (bif Fb (gs 1 (Sp (C2 s csp) ccs) (Sn (C2 s csp) ccs)) ⟨Oo (S1 (S1 (C1 s csp) crl) caq), 0, 0, 0, 0, 0, true, true⟩ then some (.tuple #[instV noInst, errV 0]) else some (.tuple #[instV noInst, errV 0])) else bif Nat.beq (Pe (Fi (gs 1 (Sp (C2 s csp) ccs) (Sn (C2 s csp) ccs)) ⟨Oo (S1 (S1 (C1 s csp) crl) caq), 0, 0, 0, 0, 0, true, true⟩)) 2 then (bif Fb (gs 1 (Sp (C2 s csp) ccs) (Sn (C2 s csp) ccs)) ⟨Oo (S1 (S1 (C1 s csp) crl) caq), 0, 0, 0, 0, 0, true, true⟩ then some (.tuple #[instV noInst, errV 0]) else some (.tuple #[instV noInst, errV 0])) else bif Nat.beq (Pe (Fi (gs 1 (Sp (C2 s csp) ccs) (Sn (C2 s csp) ccs)) ⟨Oo (S1 (S1 (C1 s csp) crl) caq), 0, 0, 0, 0, 0, true, true⟩)) 3 then (bif Fb (gs 1 (Sp (C2 s csp) ccs) (Sn (C2 s csp) ccs)) ⟨Oo (S1 (S1 (C1 s csp) crl) caq), 0, 0, 0, 0, 0, true, true⟩ then some (.tuple #[instV noInst, errV 0]) else some (.tuple #[instV noInst, errV 0])) else none) else none)) else none) else (bif Sg (C2 s csp) ccs then (bif Oo (S1 (S1 (C1 s csp) crl) caq) == 0 then some (.tuple #[instV noInst, errV 0]) else (bif Fg (gs 1 (Sp (C2 s csp) ccs) (Sn (C2 s csp) ccs)) ⟨Oo (S1 (S1 (C1 s csp) crl) caq), 0, 0, 0, 0, 0, false, true⟩ then (bif Nat.beq (Pe (Fi (gs 1 (Sp (C2 s csp) ccs) (Sn (C2 s csp) ccs)) ⟨Oo (S1 (S1 (C1 s csp) crl) caq), 0, 0, 0, 0, 0, false, true⟩)) 0 then (bif Fb (gs 1 (Sp (C2 s csp) ccs) (Sn (C2 s csp) ccs)) ⟨Oo (S1 (S1 (C1 s csp) crl) caq), 0, 0, 0, 0, 0, false, true⟩ then some (.tuple #[instV noInst, errV 0]) else bif !((Pt (Fi (gs 1 (Sp (C2 s csp) ccs) (Sn (C2 s csp) ccs)) ⟨Oo (S1 (S1 (C1 s csp) crl) caq), 0, 0, 0, 0, 0, false, true⟩)).toList == s.toList) then some (.tuple #[instV noInst, errV 0]) else some (.tuple #[instV (Fi (gs 1 (Sp (C2 s csp) ccs) (Sn (C2 s csp) ccs)) ⟨Oo (S1 (S1 (C1 s csp) crl) caq), 0, 0, 0, 0, 0, false, true⟩), .nilIface])) else bif Nat.beq (Pe (Fi (gs 1 (Sp (C2 s csp) ccs) (Sn (C2 s csp) ccs)) ⟨Oo (S1 (S1 (C1 s csp) crl) caq), 0, 0, 0, 0, 0, false, true⟩)) 1 then (bif Fb (gs 1 (Sp (C2 s csp) ccs) (Sn (C2 s csp) ccs)) ⟨Oo (S1 (S1 (C1 s csp) crl) caq), 0, 0, 0, 0, 0, false, true⟩ then some (.tuple #[instV noInst, errV 0]) else some (.tuple #[instV noInst, errV 0])) else bif Nat.beq (Pe (Fi (gs 1 (Sp (C2 s csp) ccs) (Sn (C2 s csp) ccs)) ⟨Oo (S1 (S1 (C1 s csp) crl) caq), 0, 0, 0, 0, 0, false, true⟩)) 2 then (bif Fb (gs 1 (Sp (C2 s csp) ccs) (Sn (C2 s csp) ccs)) ⟨Oo (S1 (S1 (C1 s csp) crl) caq), 0, 0, 0, 0, 0, false, true⟩ then some (.tuple #[instV noInst, errV 0]) else some (.tuple #[instV noInst, errV 0])) else bif Nat.beq (Pe (Fi (gs 1 (Sp (C2 s csp) ccs) (Sn (C2 s csp) ccs)) ⟨Oo (S1 (S1 (C1 s csp) crl) caq), 0, 0, 0, 0, 0, false, true⟩)) 3 then (bif Fb (gs 1 (Sp (C2 s csp) ccs) (Sn (C2 s csp) ccs)) ⟨Oo (S1 (S1 (C1 s csp) crl) caq), 0, 0, 0, 0, 0, false, true⟩ then some (.tuple #[instV noInst, errV 0]) else some (.tuple #[instV noInst, errV 0])) else none) else none)) else none)) else none) else (bif ln (S1 (C1 s csp) crl) then (bif S2 (S1 (C1 s csp) crl) caq then (bif Sg (C2 s csp) ccs then (bif Oo (S1 (S1 (C1 s csp) crl) caq) == 0 then some (.tuple #[instV noInst, errV 0]) else (bif Fg (gs 1 (Sp (C2 s csp) ccs) (Sn (C2 s csp) ccs)) ⟨Oo (S1 (S1 (C1 s csp) crl) caq), 0, 0, 0, 0, 0, true, false⟩ then (bif Nat.beq (Pe (Fi (gs 1 (Sp (C2 s csp) ccs) (Sn (C2 s csp) ccs)) ⟨Oo (S1 (S1 (C1 s csp) crl) caq), 0, 0, 0, 0, 0, true, false⟩)) 0 then (bif Fb (gs 1 (Sp (C2 s csp) ccs) (Sn (C2 s csp) ccs)) ⟨Oo (S1 (S1 (C1 s csp) crl) caq), 0, 0, 0, 0, 0, true, false⟩ then some (.tuple #[instV noInst, errV 0]) else bif !((Pt (Fi (gs 1 (Sp (C2 s csp) ccs) (Sn (C2 s csp) ccs)) ⟨Oo (S1 (S1 (C1 s csp) crl) caq), 0, 0, 0, 0, 0, true, false⟩)).toList == s.toList) then some (.tuple #[instV noInst, errV 0]) else some (.tuple #[instV (Fi (gs 1 (Sp (C2 s csp) ccs) (Sn (C2 s csp) ccs)) ⟨Oo (S1 (S1 (C1 s csp) crl) caq), 0, 0, 0, 0, 0, true, false⟩), .nilIface])) else bif Nat.beq (Pe (Fi (gs 1 (Sp (C2 s csp) ccs) (Sn (C2 s csp) ccs)) ⟨Oo (S1 (S1 (C1 s csp) crl) caq), 0, 0, 0, 0, 0, true, false⟩)) 1 then (bif Fb (gs 1 (Sp (C2 s csp) ccs) (Sn (C2 s csp) ccs)) ⟨Oo (S1 (S1 (C1 s csp) crl) caq), 0, 0, 0, 0, 0, true, false⟩ then some (.tuple #[instV noInst, errV 0]) else some (.tuple #[instV noInst, errV 0])) else bif Nat.beq (Pe (Fi (gs 1 (Sp (C2 s csp) ccs) (Sn (C2 s csp) ccs)) ⟨Oo (S1 (S1 (C1 s csp) crl) caq), 0, 0, 0, 0, 0, true, false⟩)) 2 then (bif Fb (gs 1 (Sp (C2 s csp) ccs) (Sn (C2 s csp) ccs)) ⟨Oo (S1 (S1 (C1 s csp) crl) caq), 0, 0, 0, 0, 0, true, false⟩ then some (.tuple #[instV noInst, errV 0]) else some (.tuple #[instV noInst, errV 0])) else bif Nat.beq (Pe (Fi (gs 1 (Sp (C2 s csp) ccs) (Sn (C2 s csp) ccs)) ⟨Oo (S1 (S1 (C1 s csp) crl) caq), 0, 0, 0, 0, 0, true, false⟩)) 3 then (bif Fb (gs 1 (Sp (C2 s csp) ccs) (Sn (C2 s csp) ccs)) ⟨Oo (S1 (S1 (C1 s csp) crl) caq), 0, 0, 0, 0, 0, true, false⟩ then some (.tuple #[instV noInst, errV 0]) else some (.tuple #[instV noInst, errV 0])) else none) else none)) else none) else (bif Sg (C2 s csp) ccs then (bif Oo (S1 (S1 (C1 s csp) crl) caq) == 0 then some (.tuple #[instV noInst, errV 0]) else (bif Fg (gs 1 (Sp (C2 s csp) ccs) (Sn (C2 s csp) ccs)) ⟨Oo (S1 (S1 (C1 s csp) crl) caq), 0, 0, 0, 0, 0, false, false⟩ then (bif Nat.beq (Pe (Fi (gs 1 (Sp (C2 s csp) ccs) (Sn (C2 s csp) ccs)) ⟨Oo (S1 (S1 (C1 s csp) crl) caq), 0, 0, 0, 0, 0, false, false⟩)) 0 then (bif Fb (gs 1 (Sp (C2 s csp) ccs) (Sn (C2 s csp) ccs)) ⟨Oo (S1 (S1 (C1 s csp) crl) caq), 0, 0, 0, 0, 0, false, false⟩ then some (.tuple #[instV noInst, errV 0]) else bif !((Pt (Fi (gs 1 (Sp (C2 s csp) ccs) (Sn (C2 s csp) ccs)) ⟨Oo (S1 (S1 (C1 s csp) crl) caq), 0, 0, 0, 0, 0, false, false⟩)).toList == s.toList) then some (.tuple #[instV noInst, errV 0]) else some (.tuple #[instV (Fi (gs 1 (Sp (C2 s csp) ccs) (Sn (C2 s csp) ccs)) ⟨Oo (S1 (S1 (C1 s csp) crl) caq), 0, 0, 0, 0, 0, false, false⟩), .nilIface])) else bif Nat.beq (Pe (Fi (gs 1 (Sp (C2 s csp) ccs) (Sn (C2 s csp) ccs)) ⟨Oo (S1 (S1 (C1 s csp) crl) caq), 0, 0, 0, 0, 0, false, false⟩)) 1 then (bif Fb (gs 1 (Sp (C2 s csp) ccs) (Sn (C2 s csp) ccs)) ⟨Oo (S1 (S1 (C1 s csp) crl) caq), 0, 0, 0, 0, 0, false, false⟩ then some (.tuple #[instV noInst, errV 0]) else some (.tuple #[instV noInst, errV 0])) else bif Nat.beq (Pe (Fi (gs 1 (Sp (C2 s csp) ccs) (Sn (C2 s csp) ccs)) ⟨Oo (S1 (S1 (C1 s csp) crl) caq), 0, 0, 0, 0, 0, false, false⟩)) 2 then (bif Fb (gs 1 (Sp (C2 s csp) ccs) (Sn (C2 s csp) ccs)) ⟨Oo (S1 (S1 (C1 s csp) crl) caq), 0, 0, 0, 0, 0, false, false⟩ then some (.tuple #[instV noInst, errV 0]) else some (.tuple #[instV noInst, errV 0])) else bif Nat.beq (Pe (Fi (gs 1 (Sp (C2 s csp) ccs) (Sn (C2 s csp) ccs)) ⟨Oo (S1 (S1 (C1 s csp) crl) caq), 0, 0, 0, 0, 0, false, false⟩)) 3 then (bif Fb (gs 1 (Sp (C2 s csp) ccs) (Sn (C2 s csp) ccs)) ⟨Oo (S1 (S1 (C1 s csp) crl) caq), 0, 0, 0, 0, 0, false, false⟩ then some (.tuple #[instV noInst, errV 0]) else some (.tuple #[instV noInst, errV 0])) else none) else none)) else none)) else none)) else none) else (bif Sg (C2 s csp) ccs then (bif Oo (C1 s csp) == 0 then some (.tuple #[instV noInst, errV 0]) else (bif Fg (gs 1 (Sp (C2 s csp) ccs) (Sn (C2 s csp) ccs)) ⟨Oo (C1 s csp), 0, 0, 0, 0, 0, false, false⟩ then (bif Nat.beq (Pe (Fi (gs 1 (Sp (C2 s csp) ccs) (Sn (C2 s csp) ccs)) ⟨Oo (C1 s csp), 0, 0, 0, 0, 0, false, false⟩)) 0 then (bif Fb (gs 1 (Sp (C2 s csp) ccs) (Sn (C2 s csp) ccs)) ⟨Oo (C1 s csp), 0, 0, 0, 0, 0, false, false⟩ then some (.tuple #[instV noInst, errV 0]) else bif !((Pt (Fi (gs 1 (Sp (C2 s csp) ccs) (Sn (C2 s csp) ccs)) ⟨Oo (C1 s csp), 0, 0, 0, 0, 0, false, false⟩)).toList == s.toList) then some (.tuple #[instV noInst, errV 0]) else some (.tuple #[instV (Fi (gs 1 (Sp (C2 s csp) ccs) (Sn (C2 s csp) ccs)) ⟨Oo (C1 s csp), 0, 0, 0, 0, 0, false, false⟩), .nilIface])) else bif Nat.beq (Pe (Fi (gs 1 (Sp (C2 s csp) ccs) (Sn (C2 s csp) ccs)) ⟨Oo (C1 s csp), 0, 0, 0, 0, 0, false, false⟩)) 1 then (bif Fb (gs 1 (Sp (C2 s csp) ccs) (Sn (C2 s csp) ccs)) ⟨Oo (C1 s csp), 0, 0, 0, 0, 0, false, false⟩ then some (.tuple #[instV noInst, errV 0]) else some (.tuple #[instV noInst, errV 0])) else bif Nat.beq (Pe (Fi (gs 1 (Sp (C2 s csp) ccs) (Sn (C2 s csp) ccs)) ⟨Oo (C1 s csp), 0, 0, 0, 0, 0, false, false⟩)) 2 then (bif Fb (gs 1 (Sp (C2 s csp) ccs) (Sn (C2 s csp) ccs)) ⟨Oo (C1 s csp), 0, 0, 0, 0, 0, false, false⟩ then some (.tuple #[instV noInst, errV 0]) else some (.tuple #[instV noInst, errV 0])) else bif Nat.beq (Pe (Fi (gs 1 (Sp (C2 s csp) ccs) (Sn (C2 s csp) ccs)) ⟨Oo (C1 s csp), 0, 0, 0, 0, 0, false, false⟩)) 3 then (bif Fb (gs 1 (Sp (C2 s csp) ccs) (Sn (C2 s csp) ccs)) ⟨Oo (C1 s csp), 0, 0, 0, 0, 0, false, false⟩ then some (.tuple #[instV noInst, errV 0]) else some (.tuple #[instV noInst, errV 0])) else none) else none)) else none)) else (bif Oo (C1 s csp) == 0 then (bif ln (C1 s csp) then (bif S2 (C1 s csp) crl then (bif ln (S1 (C1 s csp) crl) then (bif S2 (S1 (C1 s csp) crl) caq then (bif Oo (S1 (S1 (C1 s csp) crl) caq) == 0 then some (.tuple #[instV noInst, errV 0]) else (bif Fg (.slice none 0 0) ⟨Oo (S1 (S1 (C1 s csp) crl) caq), 0, 0, 0, 0, 0, true, true⟩ then (bif Nat.beq (Pe (Fi (.slice none 0 0) ⟨Oo (S1 (S1 (C1 s csp) crl) caq), 0, 0, 0, 0, 0, true, true⟩)) 0 then (bif Fb (.slice none 0 0) ⟨Oo (S1 (S1 (C1 s csp) crl) caq), 0, 0, 0, 0, 0, true, true⟩ then some (.tuple #[instV noInst, errV 0]) else bif !((Pt (Fi (.slice none 0 0) ⟨Oo (S1 (S1 (C1 s csp) crl) caq), 0, 0, 0, 0, 0, true, true⟩)).toList == s.toList) then some (.tuple #[instV noInst, errV 0]) else some (.tuple #[instV (Fi (.slice none 0 0) ⟨Oo (S1 (S1 (C1 s csp) crl) caq), 0, 0, 0, 0, 0, true, true⟩), .nilIface])) else bif Nat.beq (Pe (Fi (.slice none 0 0) ⟨Oo (S1 (S1 (C1 s csp) crl) caq), 0, 0, 0, 0, 0, true, true⟩)) 1 then (bif Fb (.slice none 0 0) ⟨Oo (S1 (S1 (C1 s csp) crl) caq), 0, 0, 0, 0, 0, true, true⟩ then some (.tuple #[instV noInst, errV 0]) else some (.tuple #[instV noInst, errV 0])) else bif Nat.beq (Pe (Fi (.slice none 0 0) ⟨Oo (S1 (S1 (C1 s csp) crl) caq), 0, 0, 0, 0, 0, true, true⟩)) 2 then (bif Fb (.slice none 0 0) ⟨Oo (S1 (S1 (C1 s csp) crl) caq), 0, 0, 0, 0, 0, true, true⟩ then some (.tuple #[instV noInst, errV 0]) else some (.tuple #[instV noInst, errV 0])) else bif Nat.beq (Pe (Fi (.slice none 0 0) ⟨Oo (S1 (S1 (C1 s csp) crl) caq), 0, 0, 0, 0, 0, true, true⟩)) 3 then (bif Fb (.slice none 0 0) ⟨Oo (S1 (S1 (C1 s csp) crl) caq), 0, 0, 0, 0, 0, true, true⟩ then some (.tuple #[instV noInst, errV 0]) else some (.tuple #[instV noInst, errV 0])) else none) else none)) else (bif Oo (S1 (S1 (C1 s csp) crl) caq) == 0 then some (.tuple #[instV noInst, errV 0]) else (bif Fg (.slice none 0 0) ⟨Oo (S1 (S1 (C1 s csp) crl) caq), 0, 0, 0, 0, 0, false, true⟩ then (bif Nat.beq (Pe (Fi (.slice none 0 0) ⟨Oo (S1 (S1 (C1 s csp) crl) caq), 0, 0, 0, 0, 0, false, true⟩)) 0 then (bif Fb (.slice none 0 0) ⟨Oo (S1 (S1 (C1 s csp) crl) caq), 0, 0, 0, 0, 0, false, true⟩ then some (.tuple #[instV noInst, errV 0]) else bif !((Pt (Fi (.slice none 0 0) ⟨Oo (S1 (S1 (C1 s csp) crl) caq), 0, 0, 0, 0, 0, false, true⟩)).toList == s.toList) then some (.tuple #[instV noInst, errV 0]) else some (.tuple #[instV (Fi (.slice none 0 0) ⟨Oo (S1 (S1 (C1 s csp) crl) caq), 0, 0, 0, 0, 0, false, true⟩), .nilIface])) else bif Nat.beq (Pe (Fi (.slice none 0 0) ⟨Oo (S1 (S1 (C1 s csp) crl) caq), 0, 0, 0, 0, 0, false, true⟩)) 1 then (bif Fb (.slice none 0 0) ⟨Oo (S1 (S1 (C1 s csp) crl) caq), 0, 0, 0, 0, 0, false, true⟩ then some (.tuple #[instV noInst, errV 0]) else some (.tuple #[instV noInst, errV 0])) else bif Nat.beq (Pe (Fi (.slice none 0 0) ⟨Oo (S1 (S1 (C1 s csp) crl) caq), 0, 0, 0, 0, 0, false, true⟩)) 2 then (bif Fb (.slice none 0 0) ⟨Oo (S1 (S1 (C1 s csp) crl) caq), 0, 0, 0, 0, 0, false, true⟩ then some (.tuple #[instV noInst, errV 0]) else some (.tuple #[instV noInst, errV 0])) else bif Nat.beq (Pe (Fi (.slice none 0 0) ⟨Oo (S1 (S1 (C1 s csp) crl) caq), 0, 0, 0, 0, 0, false, true⟩)) 3 then (bif Fb (.slice none 0 0) ⟨Oo (S1 (S1 (C1 s csp) crl) caq), 0, 0, 0, 0, 0, false, true⟩ then some (.tuple #[instV noInst, errV 0]) else some (.tuple #[instV noInst, errV 0])) else none) else none))) else none) else (bif ln (S1 (C1 s csp) crl) then (bif S2 (S1 (C1 s csp) crl) caq then (bif Oo (S1 (S1 (C1 s csp) crl) caq) == 0 then some (.tuple #[instV noInst, errV 0]) else (bif Fg (.slice none 0 0) ⟨Oo (S1 (S1 (C1 s csp) crl) caq), 0, 0, 0, 0, 0, true, false⟩ then (bif Nat.beq (Pe (Fi (.slice none 0 0) ⟨Oo (S1 (S1 (C1 s csp) crl) caq), 0, 0, 0, 0, 0, true, false⟩)) 0 then (bif Fb (.slice none 0 0) ⟨Oo (S1 (S1 (C1 s csp) crl) caq), 0, 0, 0, 0, 0, true, false⟩ then some (.tuple #[instV noInst, errV 0]) else bif !((Pt (Fi (.slice none 0 0) ⟨Oo (S1 (S1 (C1 s csp) crl) caq), 0, 0, 0, 0, 0, true, false⟩)).toList == s.toList) then some (.tuple #[instV noInst, errV 0]) else some (.tuple #[instV (Fi (.slice none 0 0) ⟨Oo (S1 (S1 (C1 s csp) crl) caq), 0, 0, 0, 0, 0, true, false⟩), .nilIface])) else bif Nat.beq (Pe (Fi (.slice none 0 0) ⟨Oo (S1 (S1 (C1 s csp) crl) caq), 0, 0, 0, 0, 0, true, false⟩)) 1 then (bif Fb (.slice none 0 0) ⟨Oo (S1 (S1 (C1 s csp) crl) caq), 0, 0, 0, 0, 0, true, false⟩ then some (.tuple #[instV noInst, errV 0]) else some (.tuple #[instV noInst, errV 0])) else bif Nat.beq (Pe (Fi (.slice none 0 0) ⟨Oo (S1 (S1 (C1 s csp) crl) caq), 0, 0, 0, 0, 0, true, false⟩)) 2 then (bif Fb (.slice none 0 0) ⟨Oo (S1 (S1 (C1 s csp) crl) caq), 0, 0, 0, 0, 0, true, false⟩ then some (.tuple #[instV noInst, errV 0]) else some (.tuple #[instV noInst, errV 0])) else bif Nat.beq (Pe (Fi (.slice none 0 0) ⟨Oo (S1 (S1 (C1 s csp) crl) caq), 0, 0, 0, 0, 0, true, false⟩)) 3 then (bif Fb (.slice none 0 0) ⟨Oo (S1 (S1 (C1 s csp) crl) caq), 0, 0, 0, 0, 0, true, false⟩ then some (.tuple #[instV noInst, errV 0]) else some (.tuple #[instV noInst, errV 0])) else none) else none)) else (bif Oo (S1 (S1 (C1 s csp) crl) caq) == 0 then some (.tuple #[instV noInst, errV 0]) else (bif Fg (.slice none 0 0) ⟨Oo (S1 (S1 (C1 s csp) crl) caq), 0, 0, 0, 0, 0, false, false⟩ then (bif Nat.beq (Pe (Fi (.slice none 0 0) ⟨Oo (S1 (S1 (C1 s csp) crl) caq), 0, 0, 0, 0, 0, false, false⟩)) 0 then (bif Fb (.slice none 0 0) ⟨Oo (S1 (S1 (C1 s csp) crl) caq), 0, 0, 0, 0, 0, false, false⟩ then some (.tuple #[instV noInst, errV 0]) else bif !((Pt (Fi (.slice none 0 0) ⟨Oo (S1 (S1 (C1 s csp) crl) caq), 0, 0, 0, 0, 0, false, false⟩)).toList == s.toList) then some (.tuple #[instV noInst, errV 0]) else some (.tuple #[instV (Fi (.slice none 0 0) ⟨Oo (S1 (S1 (C1 s csp) crl) caq), 0, 0, 0, 0, 0, false, false⟩), .nilIface])) else bif Nat.beq (Pe (Fi (.slice none 0 0) ⟨Oo (S1 (S1 (C1 s csp) crl) caq), 0, 0, 0, 0, 0, false, false⟩)) 1 then (bif Fb (.slice none 0 0) ⟨Oo (S1 (S1 (C1 s csp) crl) caq), 0, 0, 0, 0, 0, false, false⟩ then some (.tuple #[instV noInst, errV 0]) else some (.tuple #[instV noInst, errV 0])) else bif Nat.beq (Pe (Fi (.slice none 0 0) ⟨Oo (S1 (S1 (C1 s csp) crl) caq), 0, 0, 0, 0, 0, false, false⟩)) 2 then (bif Fb (.slice none 0 0) ⟨Oo (S1 (S1 (C1 s csp) crl) caq), 0, 0, 0, 0, 0, false, false⟩ then some (.tuple #[instV noInst, errV 0]) else some (.tuple #[instV noInst, errV 0])) else bif Nat.beq (Pe (Fi (.slice none 0 0) ⟨Oo (S1 (S1 (C1 s csp) crl) caq), 0, 0, 0, 0, 0, false, false⟩)) 3 then (bif Fb (.slice none 0 0) ⟨Oo (S1 (S1 (C1 s csp) crl) caq), 0, 0, 0, 0, 0, false, false⟩ then some (.tuple #[instV noInst, errV 0]) else some (.tuple #[instV noInst, errV 0])) else none) else none))) else none)) else none) else (bif Oo (C1 s csp) == 0 then some (.tuple #[instV noInst, errV 0]) else (bif Fg (.slice none 0 0) ⟨Oo (C1 s csp), 0, 0, 0, 0, 0, false, false⟩ then (bif Nat.beq (Pe (Fi (.slice none 0 0) ⟨Oo (C1 s csp), 0, 0, 0, 0, 0, false, false⟩)) 0 then (bif Fb (.slice none 0 0) ⟨Oo (C1 s csp), 0, 0, 0, 0, 0, false, false⟩ then some (.tuple #[instV noInst, errV 0]) else bif !((Pt (Fi (.slice none 0 0) ⟨Oo (C1 s csp), 0, 0, 0, 0, 0, false, false⟩)).toList == s.toList) then some (.tuple #[instV noInst, errV 0]) else some (.tuple #[instV (Fi (.slice none 0 0) ⟨Oo (C1 s csp), 0, 0, 0, 0, 0, false, false⟩), .nilIface])) else bif Nat.beq (Pe (Fi (.slice none 0 0) ⟨Oo (C1 s csp), 0, 0, 0, 0, 0, false, false⟩)) 1 then (bif Fb (.slice none 0 0) ⟨Oo (C1 s csp), 0, 0, 0, 0, 0, false, false⟩ then some (.tuple #[instV noInst, errV 0]) else some (.tuple #[instV noInst, errV 0])) else bif Nat.beq (Pe (Fi (.slice none 0 0) ⟨Oo (C1 s csp), 0, 0, 0, 0, 0, false, false⟩)) 2 then (bif Fb (.slice none 0 0) ⟨Oo (C1 s csp), 0, 0, 0, 0, 0, false, false⟩ then some (.tuple #[instV noInst, errV 0]) else some (.tuple #[instV noInst, errV 0])) else bif Nat.beq (Pe (Fi (.slice none 0 0) ⟨Oo (C1 s csp), 0, 0, 0, 0, 0, false, false⟩)) 3 then (bif Fb (.slice none 0 0) ⟨Oo (C1 s csp), 0, 0, 0, 0, 0, false, false⟩ then some (.tuple #[instV noInst, errV 0]) else some (.tuple #[instV noInst, errV 0])) else none) else none)))) else none
theorem parse_run (C1 C2 : ByteArray → ByteArray → ByteArray) (C3 : ByteArray → ByteArray → Bool) (S1 : ByteArray → ByteArray → ByteArray) (S2 : ByteArray → ByteArray → Bool) (Oo : ByteArray → Int) (Sp : ByteArray → ByteArray → List Value) (Sn : ByteArray → ByteArray → Nat) (Sg : ByteArray → ByteArray → Bool) (Fi : Value → Inst → Inst) (Fb : Value → Inst → Bool) (Fl : Value → Inst → Value) (Fg : Value → Inst → Bool) (Pe : Inst → Nat) (Pt : Inst → ByteArray) (s : ByteArray) : callK (ctx (parseΦ C1 C2 C3 S1 S2 Oo Sp Sn Sg Fi Fb Fl Fg Pe Pt)) 20 0 12 [.string s] [] (fun v _ => some v) = parseT C1 C2 C3 S1 S2 Oo Sp Sn Sg Fi Fb Fl Fg Pe Pt s := by kernel_rfl
end Go.Proofs.YtgkicojmgokinaaGreatDoor.Ab
namespace Go.Proofs.YtgkicojmgokinaaGreatDoor.Ab
open Go Go.RowKit
set_option linter.unusedVariables false
set_option linter.unusedSimpArgs false
set_option maxRecDepth 100000
theorem findOp_range (l : List UInt8) : ∀ (r : List (List UInt8)) (b : Int), findOp l r b = 0 ∨ (b ≤ findOp l r b ∧ findOp l r b < b + r.length)
  | [], b => .inl rfl
  | x :: r, b => by
    unfold findOp
    cases (x == l) with
    | true => exact .inr ⟨Int.le_refl _, by simp only [cond_true, List.length_cons]; omega⟩
    | false =>
      rcases findOp_range l r (b + 1) with h | h
      · exact .inl h
      · refine .inr ?_
        simp only [cond_false, List.length_cons]; omega
theorem opF_range (l : List UInt8) : opF l = 0 ∨ isOp (opF l) = true := by
  rcases findOp_range l names 1 with h | h
  · exact .inl h
  · refine .inr ?_
    have e : names.length = 69 := rfl
    rw [e] at h
    simp only [isOp, Bool.and_eq_true, decide_eq_true_eq]
    unfold opF; omega
theorem splitK_len (p : List UInt8) : ∀ (k : Nat) (l : List UInt8), ∀ x ∈ Lib.splitK p 0 k l, x.length ≤ l.length
  | 0, l, x, h => by simp [Lib.splitK] at h; rw [h]; exact Nat.le_refl _
  | k + 1, l, x, h => by
    unfold Lib.splitK at h
    split at h
    · simp at h; rw [h]; exact Nat.le_refl _
    · rcases List.mem_cons.1 h with rfl | h
      · rw [List.length_take]; omega
      · have := splitK_len p k _ x h
        rw [List.length_drop] at this; omega
def lsP (has : Bool) (s : ByteArray) : Value := bif has then gs 1 (splC (cut2 s csp) ccs) (splN (cut2 s csp) ccs) else .slice none 0 0
theorem okL_ls {s : ByteArray} (h : ln s = true) (has : Bool) : okL (lsP has s) = true := by
  cases has with
  | false => rfl
  | true =>
    have h2 := (ln_cut (p := csp) h).2
    show ((splC (cut2 s csp) ccs).all isSh && Nat.beq (splN (cut2 s csp) ccs) (splC (cut2 s csp) ccs).length) = true
    rw [Bool.and_eq_true]
    refine ⟨?_, ?_⟩
    · unfold splC
      rw [List.all_eq_true]
      intro y hy
      obtain ⟨z, hz, rfl⟩ := List.mem_map.1 hy
      have := splitK_len (bytes ccs) _ _ z hz
      simp only [ln, decide_eq_true_eq] at h2
      have e : (bytes (cut2 s csp)).length = (cut2 s csp).size := rfl
      show ln (bs z) = true
      simp only [ln, decide_eq_true_eq]
      show z.length ≤ 100000
      omega
    · unfold splC splN; rw [List.length_map]; exact Nat.beq_refl _
theorem splG_ok {s : ByteArray} (h : ln s = true) : splG (cut2 s csp) ccs = true := by
  unfold splG
  rw [(ln_cut (p := csp) h).2]; rfl
noncomputable def finP (l : Value) (i : Inst) (s : ByteArray) : Option Inst :=
  bif i.op == 0 then none else bif fbV l i then none else bif Nat.beq (encE (fiV l i)) 0 && ((textS (fiV l i)).toList == s.toList) then some (fiV l i) else none
def resV : Option Inst → Value
  | some i => .tuple #[instV i, .nilIface]
  | none => .tuple #[instV noInst, errV 0]
theorem fin_tree {l : Value} (hl : okL l = true) (i : Inst) (ho : i.op = 0 ∨ isOp i.op = true) (s : ByteArray) :
    (bif i.op == 0 then some (.tuple #[instV noInst, errV 0]) else (bif fgV l i then (bif Nat.beq (encE (fiV l i)) 0 then (bif fbV l i then some (.tuple #[instV noInst, errV 0]) else bif !((textS (fiV l i)).toList == s.toList) then some (.tuple #[instV noInst, errV 0]) else some (.tuple #[instV (fiV l i), .nilIface])) else
      bif Nat.beq (encE (fiV l i)) 1 then (bif fbV l i then some (.tuple #[instV noInst, errV 0]) else some (.tuple #[instV noInst, errV 0])) else bif Nat.beq (encE (fiV l i)) 2 then (bif fbV l i then some (.tuple #[instV noInst, errV 0]) else some (.tuple #[instV noInst, errV 0])) else
      bif Nat.beq (encE (fiV l i)) 3 then (bif fbV l i then some (.tuple #[instV noInst, errV 0]) else some (.tuple #[instV noInst, errV 0])) else none) else none)) = some (resV (finP l i s)) := by
  unfold finP
  cases h0 : (i.op == 0) with
  | true => rfl
  | false =>
    have hne : i.op ≠ 0 := by simpa using h0
    have hop : isOp i.op = true := ho.resolve_left hne
    have hg : fgV l i = true := by unfold fgV; rw [hl, hop]; rfl
    simp only [cond_false, hg, cond_true]
    cases hb : fbV l i with
    | true =>
      rcases encV_cases (fiV l i) with ⟨a, _⟩ | ⟨a, _⟩ | ⟨a, _⟩ | ⟨a, _⟩ <;> rw [a] <;> rfl
    | false =>
      rcases encV_cases (fiV l i) with ⟨a, _⟩ | ⟨a, _⟩ | ⟨a, _⟩ | ⟨a, _⟩ <;> rw [a]
      · cases ((textS (fiV l i)).toList == s.toList) <;> rfl
      all_goals rfl
def nameP (s : ByteArray) : ByteArray × Bool × Bool :=
  bif opN (cut1 s csp) == 0 then (sufS (sufS (cut1 s csp) crl) caq, sufB (sufS (cut1 s csp) crl) caq, sufB (cut1 s csp) crl) else (cut1 s csp, false, false)
def i0P (s : ByteArray) : Inst := ⟨opN (nameP s).1, 0, 0, 0, 0, 0, (nameP s).2.1, (nameP s).2.2⟩
noncomputable def parseP (s : ByteArray) : Option Inst := finP (lsP (cut3 s csp) s) (i0P s) s
theorem parse_tree {s : ByteArray} (h : ln s = true) : parseT cut1 cut2 cut3 sufS sufB opN splC splN splG fiV fbV flV fgV encE textS s = some (resV (parseP s)) := by
  have h1 := (ln_cut (p := csp) h).1
  have h2 := ln_suf (p := crl) h1
  have hs := splG_ok h
  have lt := okL_ls h true
  have lf := okL_ls h false
  have ho : ∀ x : ByteArray, opN x = 0 ∨ isOp (opN x) = true := fun x => opF_range _
  unfold parseT parseP i0P nameP
  rw [h, cond_true]
  cases cut3 s csp with
  | true =>
    cases hc : (opN (cut1 s csp) == 0) with
    | true =>
      simp only [cond_true, h1, h2, hs]
      cases sufB (cut1 s csp) crl <;> cases sufB (sufS (cut1 s csp) crl) caq
      · exact fin_tree lt ⟨opN (sufS (sufS (cut1 s csp) crl) caq), 0, 0, 0, 0, 0, false, false⟩ (ho _) s
      · exact fin_tree lt ⟨opN (sufS (sufS (cut1 s csp) crl) caq), 0, 0, 0, 0, 0, true, false⟩ (ho _) s
      · exact fin_tree lt ⟨opN (sufS (sufS (cut1 s csp) crl) caq), 0, 0, 0, 0, 0, false, true⟩ (ho _) s
      · exact fin_tree lt ⟨opN (sufS (sufS (cut1 s csp) crl) caq), 0, 0, 0, 0, 0, true, true⟩ (ho _) s
    | false =>
      simp only [cond_true, cond_false, hs]
      have t := fin_tree lt ⟨opN (cut1 s csp), 0, 0, 0, 0, 0, false, false⟩ (ho _) s
      rw [show ((⟨opN (cut1 s csp), 0, 0, 0, 0, 0, false, false⟩ : Inst).op == 0) = false from hc, cond_false] at t
      exact t
  | false =>
    cases hc : (opN (cut1 s csp) == 0) with
    | true =>
      simp only [cond_true, cond_false, h1, h2]
      cases sufB (cut1 s csp) crl <;> cases sufB (sufS (cut1 s csp) crl) caq
      · exact fin_tree lf ⟨opN (sufS (sufS (cut1 s csp) crl) caq), 0, 0, 0, 0, 0, false, false⟩ (ho _) s
      · exact fin_tree lf ⟨opN (sufS (sufS (cut1 s csp) crl) caq), 0, 0, 0, 0, 0, true, false⟩ (ho _) s
      · exact fin_tree lf ⟨opN (sufS (sufS (cut1 s csp) crl) caq), 0, 0, 0, 0, 0, false, true⟩ (ho _) s
      · exact fin_tree lf ⟨opN (sufS (sufS (cut1 s csp) crl) caq), 0, 0, 0, 0, 0, true, true⟩ (ho _) s
    | false =>
      simp only [cond_false]
      have t := fin_tree lf ⟨opN (cut1 s csp), 0, 0, 0, 0, 0, false, false⟩ (ho _) s
      rw [show ((⟨opN (cut1 s csp), 0, 0, 0, 0, 0, false, false⟩ : Inst).op == 0) = false from hc, cond_false] at t
      exact t
theorem resV_gh (o : Option Inst) : Gh (resV o) := by
  cases o with
  | some i => exact Gh.plain rfl
  | none => exact Gh.tuple (fun x hx => by
      simp only [List.mem_cons, List.not_mem_nil, or_false] at hx
      rcases hx with rfl | rfl
      · exact Gh.plain rfl
      · exact gh_err _)
theorem parseOK {s : ByteArray} (h : ln s = true) : PureOK Tryz.prog 12 [.string s] (resV (parseP s)) :=
  PureOK.of_run parseΦ_ok ((parse_run cut1 cut2 cut3 sufS sufB opN splC splN splG fiV fbV flV fgV encE textS s).trans (parse_tree h)) (resV_gh _)
theorem parse_text {s : ByteArray} {i : Inst} (h : parseP s = some i) : encE i = 0 ∧ bs (textL i) = s := by
  unfold parseP finP at h
  generalize lsP (cut3 s csp) s = l at h
  generalize i0P s = j at h
  cases h0 : (j.op == 0) <;> rw [h0] at h
  · cases hb : fbV l j <;> rw [hb] at h
    · cases hc : (Nat.beq (encE (fiV l j)) 0 && ((textS (fiV l j)).toList == s.toList)) <;> rw [hc] at h
      · cases h
      · cases h
        rw [Bool.and_eq_true, beq_iff_eq] at hc
        refine ⟨Nat.eq_of_beq_eq_true hc.1, ?_⟩
        have := hc.2
        rw [Lib.toList_data, Lib.toList_data] at this
        obtain ⟨⟨l'⟩⟩ := s
        have e : textL (fiV l j) = l' := this
        rw [e]
    · cases h
  · cases h
end Go.Proofs.YtgkicojmgokinaaGreatDoor.Ab
