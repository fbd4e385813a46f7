/- The chapter's examples: corrallaw5.first answers true. Written by gen_first.py. -/
import Derived.Test.YtgkicojmgokinaaGreatDoorAsmParsed
import Derived.Test.YtgkicojmgokinaaGreatDoorAsmDecode
namespace Go.Proofs.YtgkicojmgokinaaGreatDoor.Ab
open Go Go.RowKit
set_option linter.unusedVariables false
set_option linter.unusedSimpArgs false
set_option maxRecDepth 100000
noncomputable def parB (s : ByteArray) : Bool := (parseP s).isSome
noncomputable def parI (s : ByteArray) : Inst := match parseP s with
  | some i => i
  | none => noInst
theorem par1 {s : ByteArray} (h : (ln s && parB s) = true) (lo : Nat) (H : Heap) : CallOK Tryz.prog lo 12 [.string s] H (.tuple #[instV (parI s), .nilIface]) H := by
  rw [Bool.and_eq_true] at h
  have := (parseOK h.1).call (gh_plains rfl) lo H
  unfold parB at h
  unfold parI
  cases hp : parseP s with
  | none => rw [hp] at h; exact absurd h.2 (by decide)
  | some i => rw [hp] at this; exact this
theorem par2 {s : ByteArray} (h : (ln s && !parB s) = true) (lo : Nat) (H : Heap) : CallOK Tryz.prog lo 12 [.string s] H (.tuple #[instV noInst, errV 0]) H := by
  rw [Bool.and_eq_true] at h
  have := (parseOK h.1).call (gh_plains rfl) lo H
  unfold parB at h
  cases hp : parseP s with
  | none => rw [hp] at this; exact this
  | some i => rw [hp] at h; exact absurd h.2 (by simp)
noncomputable def firstΦ (Qo : ByteArray → Bool) (Qi : ByteArray → Inst) (E : Inst → Nat) (W : Inst → Int) (Pt : Inst → ByteArray) : Oracle := fun lo f args H => match f with
  | 46 => match args with
    | [.int .u32 w] => some [(true, Isa.decV w, H)]
    | _ => none
  | 12 => match args with
    | [.string s] => some [(ln s && Qo s, .tuple #[instV (Qi s), .nilIface], H), (ln s && !Qo s, .tuple #[instV noInst, errV 0], H)]
    | _ => none
  | 25 => match args with
    | [.agg ⟨[.int .i64 op, .int .i64 rd, .int .i64 rs1, .int .i64 rs2, .int .i64 csr, .int .u32 imm, .bool aq, .bool rl]⟩] => some [(Nat.beq (E ⟨op, rd, rs1, rs2, csr, imm, aq, rl⟩) 0, encOk (W ⟨op, rd, rs1, rs2, csr, imm, aq, rl⟩), H), (Nat.beq (E ⟨op, rd, rs1, rs2, csr, imm, aq, rl⟩) 1, encErr 1, H), (Nat.beq (E ⟨op, rd, rs1, rs2, csr, imm, aq, rl⟩) 2, encErr 2, H), (Nat.beq (E ⟨op, rd, rs1, rs2, csr, imm, aq, rl⟩) 3, encErr 3, H)]
    | _ => none
  | 9 => match args with
    | [.agg ⟨[.int .i64 op, .int .i64 rd, .int .i64 rs1, .int .i64 rs2, .int .i64 csr, .int .u32 imm, .bool aq, .bool rl]⟩] => some [(Nat.beq (E ⟨op, rd, rs1, rs2, csr, imm, aq, rl⟩) 0, .tuple #[.string (Pt ⟨op, rd, rs1, rs2, csr, imm, aq, rl⟩), .nilIface], H), (Nat.beq (E ⟨op, rd, rs1, rs2, csr, imm, aq, rl⟩) 1, .tuple #[sv [], errV 1], H), (Nat.beq (E ⟨op, rd, rs1, rs2, csr, imm, aq, rl⟩) 2, .tuple #[sv [], errV 2], H), (Nat.beq (E ⟨op, rd, rs1, rs2, csr, imm, aq, rl⟩) 3, .tuple #[sv [], errV 3], H)]
    | _ => none
  | _ => none
theorem firstΦ_ok : CtxOK Tryz.prog (ctx (firstΦ parB parI encE encW textS)) := ctxOK fun lo f args H l v H' h hm => by
  unfold firstΦ at h
  split at h
  · split at h
    · cases h
      simp only [List.mem_cons, List.not_mem_nil, or_false, Prod.mk.injEq] at hm
      obtain ⟨hc, rfl, rfl⟩ := hm
      exact ⟨(Isa.decodeOK _).call (gh_plains rfl) lo H', rfl⟩
    · cases h
  · split at h
    · cases h
      simp only [List.mem_cons, List.not_mem_nil, or_false, Prod.mk.injEq] at hm
      rcases hm with ⟨hc, rfl, rfl⟩ | ⟨hc, rfl, rfl⟩
      · exact ⟨par1 hc.symm lo H', rfl⟩
      · exact ⟨par2 hc.symm lo H', rfl⟩
    · cases h
  · split at h
    · cases h
      simp only [List.mem_cons, List.not_mem_nil, or_false, Prod.mk.injEq] at hm
      rcases hm with ⟨hc, rfl, rfl⟩ | ⟨hc, rfl, rfl⟩ | ⟨hc, rfl, rfl⟩ | ⟨hc, rfl, rfl⟩
      · exact ⟨(encOk0 hc.symm).call (gh_plains rfl) lo H', rfl⟩
      · exact ⟨(encg hc.symm (by decide)).call (gh_plains rfl) lo H', rfl⟩
      · exact ⟨(encg hc.symm (by decide)).call (gh_plains rfl) lo H', rfl⟩
      · exact ⟨(encg hc.symm (by decide)).call (gh_plains rfl) lo H', rfl⟩
    · cases h
  · split at h
    · cases h
      simp only [List.mem_cons, List.not_mem_nil, or_false, Prod.mk.injEq] at hm
      rcases hm with ⟨hc, rfl, rfl⟩ | ⟨hc, rfl, rfl⟩ | ⟨hc, rfl, rfl⟩ | ⟨hc, rfl, rfl⟩
      · exact ⟨print0 hc.symm lo H', rfl⟩
      · exact ⟨printg hc.symm (by decide) lo H', rfl⟩
      · exact ⟨printg hc.symm (by decide) lo H', rfl⟩
      · exact ⟨printg hc.symm (by decide) lo H', rfl⟩
    · cases h
  · cases h
theorem first_run : callK (ctx (firstΦ parB parI encE encW textS)) 80 0 8 [] [] (fun v _ => some v) = some (.bool true) := by kernel_rfl
theorem firstOK : PureOK Tryz.prog 8 [] (.bool true) := PureOK.of_run firstΦ_ok first_run (Gh.plain rfl)
end Go.Proofs.YtgkicojmgokinaaGreatDoor.Ab
