/- asm.Program: its pieces, run. Written by gen_prog.py. -/
import Derived.Test.YtgkicojmgokinaaGreatDoorAsmRun0
namespace Go.Proofs.YtgkicojmgokinaaGreatDoor.Ab
open Go Go.RowKit
set_option linter.unusedVariables false
set_option linter.unusedSimpArgs false
set_option maxRecDepth 100000
noncomputable def prΦ (E : Inst → Nat) (W : Inst → Int) (Qo : ByteArray → Bool) (Qi : ByteArray → Inst) : Oracle := fun lo f args H => match f with
  | 12 => match args with
    | [.string s] => some [(ln s && Qo s, .tuple #[instV (Qi s), .nilIface], H), (ln s && !Qo s, .tuple #[instV noInst, errV 0], H)]
    | _ => none
  | 25 => match args with
    | [.agg ⟨[.int .i64 op, .int .i64 rd, .int .i64 rs1, .int .i64 rs2, .int .i64 csr, .int .u32 imm, .bool aq, .bool rl]⟩] => some [(Nat.beq (E ⟨op, rd, rs1, rs2, csr, imm, aq, rl⟩) 0, encOk (W ⟨op, rd, rs1, rs2, csr, imm, aq, rl⟩), H)]
    | _ => none
  | _ => none
theorem prΦ_ok : CtxOK Tryz.prog (ctx (prΦ encE encW parB parI)) := ctxOK fun lo f args H l v H' h hm => by
  unfold prΦ at h
  split at h
  · split at h
    · cases h
      simp only [List.mem_cons, List.not_mem_nil, or_false, Prod.mk.injEq] at hm
      rcases hm with ⟨hc, rfl, rfl⟩ | ⟨hc, rfl, rfl⟩
      · exact ⟨par1 hc.symm lo H', rfl⟩
      · exact ⟨par2 hc.symm lo H', rfl⟩
    · cases h
  · split at h
    · cases h
      simp only [List.mem_cons, List.not_mem_nil, or_false, Prod.mk.injEq] at hm
      obtain ⟨hc, rfl, rfl⟩ := hm
      exact ⟨(encOk0 hc.symm).call (gh_plains rfl) lo H', rfl⟩
    · cases h
  · cases h
noncomputable def prP (k l : Nat) : List Code := ((flat (bodyOf 17)).drop k).take l
noncomputable def prB : Code := loopIn (flat (bodyOf 17))[3]?
noncomputable def prRun (E : Inst → Nat) (W : Inst → Int) (Qo : ByteArray → Bool) (Qi : ByteArray → Inst) (l : List Code) (F : Fr) (H : Heap) (ts : List Nat) : Res :=
  runL ((ctx (prΦ E W Qo Qi)).at_ 17) (callK (ctx (prΦ E W Qo Qi)) 20) 20 0 41 17 (keeps 17) l F H (seeA ts)
theorem fn17 : sigOf 17 = some (41, [.tmp 2, .tmp 3]) := by kernel_rfl
theorem pr_flat : flat (bodyOf 17) = prP 0 3 ++ ([.block 0 (.loop prB)] ++ prP 4 2) := by kernel_rfl
def prF (ss : List ByteArray) (l : Value) (n k : Int) : Fr := [(4, l), (11, LS ss), (12, .int .i64 n), (13, .int .i64 k)]
def prE (k : Int) : List Value := [.int .i64 k, errV 0]
def prR (ss : List ByteArray) (l : Value) (n k : Int) (a b : Value) : List (Option Value) := [some l, some (LS ss), some (.int .i64 n), some (.int .i64 k), some a, some b]
/-- One round: the text is read; its word is put behind the row. -/
def prT (E : Inst → Nat) (W : Inst → Int) (Qo : ByteArray → Bool) (Qi : ByteArray → Inst) (ss : List ByteArray) (K : Nat) (good : Inst → Int → Res) (bad : Res) : Res :=
  ldSG ss K (bif ln (toStr (ldS ss K)) && Qo (toStr (ldS ss K)) then bif Nat.beq (E (Qi (toStr (ldS ss K)))) 0 then good (Qi (toStr (ldS ss K))) (W (Qi (toStr (ldS ss K)))) else none else bif ln (toStr (ldS ss K)) && !Qo (toStr (ldS ss K)) then bad else none)
theorem pr_head (E : Inst → Nat) (W : Inst → Int) (Qo : ByteArray → Bool) (Qi : ByteArray → Inst) (ss : List ByteArray) : prRun E W Qo Qi (prP 0 3) (enterF 0 [LS ss]) [] [4, 11, 12, 13] = some (.normal, (prF ss nilV (Int.ofNat ss.length) 0).map (fun e => some e.2), []) := by kernel_rfl
theorem pr_rnd0 (E : Inst → Nat) (W : Inst → Int) (Qo : ByteArray → Bool) (Qi : ByteArray → Inst) (ss : List ByteArray) (n : Int) (K : Nat) : prRun E W Qo Qi (flat prB) (prF ss nilV n (Int.ofNat K)) [] [4, 11, 12, 13] =
    bif decide (Int.ofNat K < n) then prT E W Qo Qi ss K (fun i w => some (.normal, (prF ss (sl 2 1 1) n (w64 (Int.ofNat K + 1))).map (fun e => some e.2), [some ⟨instC i, 24, none⟩, some ⟨[.int .u32 w], 22, none⟩, some ⟨[.int .u32 w], 22, none⟩]))
      (some (.ret, (prF ss nilV n (Int.ofNat K)).map (fun e => some e.2), [some ⟨instC noInst, 24, none⟩, some ⟨prE (Int.ofNat K), 91, none⟩]))
    else some (.exit 0, (prF ss nilV n (Int.ofNat K)).map (fun e => some e.2), []) := by kernel_rfl
theorem pr_rnd1 (E : Inst → Nat) (W : Inst → Int) (Qo : ByteArray → Bool) (Qi : ByteArray → Inst) (ss : List ByteArray) (n : Int) (K m : Nat) (ws : List Value) : prRun E W Qo Qi (flat prB) (prF ss (sl 0 (m + 1) 1) n (Int.ofNat K)) [some ⟨ws, 22, none⟩] [4, 11, 12, 13] =
    bif decide (Int.ofNat K < n) then prT E W Qo Qi ss K (fun i w => bif moreG ws.length (m + 1) 1 4 then some (.normal, (prF ss (sl 3 (m + 1 + 1) 1) n (w64 (Int.ofNat K + 1))).map (fun e => some e.2), [none, some ⟨instC i, 24, none⟩, some ⟨[.int .u32 w], 22, none⟩, some ⟨ws ++ [.int .u32 w], 22, none⟩]) else none)
      (some (.ret, (prF ss (sl 0 (m + 1) 1) n (Int.ofNat K)).map (fun e => some e.2), [some ⟨ws, 22, none⟩, some ⟨instC noInst, 24, none⟩, some ⟨prE (Int.ofNat K), 91, none⟩]))
    else some (.exit 0, (prF ss (sl 0 (m + 1) 1) n (Int.ofNat K)).map (fun e => some e.2), [some ⟨ws, 22, none⟩]) := by kernel_rfl
/-- How it is left at a text that is none. -/
theorem pr_bad0 (E : Inst → Nat) (W : Inst → Int) (Qo : ByteArray → Bool) (Qi : ByteArray → Inst) (ss : List ByteArray) (n : Int) (K : Nat) : prRun E W Qo Qi (flat prB) (prF ss nilV n (Int.ofNat K)) [] [2, 3] =
    bif decide (Int.ofNat K < n) then prT E W Qo Qi ss K (fun i w => some (.normal, [none, none], [some ⟨instC i, 24, none⟩, some ⟨[.int .u32 w], 22, none⟩, some ⟨[.int .u32 w], 22, none⟩]))
      (some (.ret, [some nilV, some (.iface 89 (ptr 1))], [some ⟨instC noInst, 24, none⟩, some ⟨prE (Int.ofNat K), 91, none⟩]))
    else some (.exit 0, [none, none], []) := by kernel_rfl
theorem pr_bad1 (E : Inst → Nat) (W : Inst → Int) (Qo : ByteArray → Bool) (Qi : ByteArray → Inst) (ss : List ByteArray) (n : Int) (K m : Nat) (ws : List Value) : prRun E W Qo Qi (flat prB) (prF ss (sl 0 (m + 1) 1) n (Int.ofNat K)) [some ⟨ws, 22, none⟩] [2, 3] =
    bif decide (Int.ofNat K < n) then prT E W Qo Qi ss K (fun i w => bif moreG ws.length (m + 1) 1 4 then some (.normal, [none, none], [none, some ⟨instC i, 24, none⟩, some ⟨[.int .u32 w], 22, none⟩, some ⟨ws ++ [.int .u32 w], 22, none⟩]) else none)
      (some (.ret, [some nilV, some (.iface 89 (ptr 2))], [some ⟨ws, 22, none⟩, some ⟨instC noInst, 24, none⟩, some ⟨prE (Int.ofNat K), 91, none⟩]))
    else some (.exit 0, [none, none], [some ⟨ws, 22, none⟩]) := by kernel_rfl
theorem pr_end (E : Inst → Nat) (W : Inst → Int) (Qo : ByteArray → Bool) (Qi : ByteArray → Inst) (l : Value) : prRun E W Qo Qi (prP 4 2) [(4, l)] [] [2, 3] = some (.ret, [some l, some .nilIface], []) := by kernel_rfl
theorem pr_dr1 (E : Inst → Nat) (W : Inst → Int) (Qo : ByteArray → Bool) (Qi : ByteArray → Inst) : (prP 0 3).all (drawsOK ((ctx (prΦ E W Qo Qi)).dr 17)) = true := by kernel_rfl
theorem pr_dr2 (E : Inst → Nat) (W : Inst → Int) (Qo : ByteArray → Bool) (Qi : ByteArray → Inst) : (flat prB).all (drawsOK ((ctx (prΦ E W Qo Qi)).dr 17)) = true := by kernel_rfl
theorem pr_dr3 (E : Inst → Nat) (W : Inst → Int) (Qo : ByteArray → Bool) (Qi : ByteArray → Inst) : (prP 4 2).all (drawsOK ((ctx (prΦ E W Qo Qi)).dr 17)) = true := by kernel_rfl
end Go.Proofs.YtgkicojmgokinaaGreatDoor.Ab
