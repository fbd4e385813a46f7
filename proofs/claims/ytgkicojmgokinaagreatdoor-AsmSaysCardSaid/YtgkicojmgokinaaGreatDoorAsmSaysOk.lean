/- Trimmed: AsmSaysOk -/
import Derived.Test.YtgkicojmgokinaaGreatDoorAsmSayTrip
import Derived.Test.YtgkicojmgokinaaGreatDoorAsmFirst0
namespace Go.Proofs.YtgkicojmgokinaaGreatDoor.Ab
open Go Go.RowKit
set_option linter.unusedVariables false
set_option linter.unusedSimpArgs false
set_option maxRecDepth 100000
theorem fiV_wf {l : Value} {i : Inst} (h : W32 i.imm) : W32 (fiV l i).imm := by
  unfold fiV
  split <;> first | exact h | exact w32_wrap _
theorem parse_wf {s : ByteArray} {i : Inst} (h : parseP s = some i) : i.wf := by
  unfold parseP finP at h
  have hw : W32 (fiV (lsP (cut3 s csp) s) (i0P s)).imm := fiV_wf (i := i0P s) (show W32 0 from ⟨by decide, by decide⟩)
  generalize fiV (lsP (cut3 s csp) s) (i0P s) = j at *
  generalize ((i0P s).op == 0) = c1 at h
  generalize fbV (lsP (cut3 s csp) s) (i0P s) = c2 at h
  generalize (Nat.beq (encE j) 0 && ((textS j).toList == s.toList)) = c3 at h
  cases c1 <;> cases c2 <;> cases c3 <;> simp only [cond_true, cond_false] at h <;> first | cases h | skip
  exact hw
theorem rows_hit {L : List UInt8} {A : Nat} {nm : ByteArray} {b1 b2 : Bool} : ∀ (f k : Nat), rowsF L A nm b1 b2 f k = (noInst, false) ∨ ∃ j : Inst, j.wf ∧ encE j = 0 ∧ textS j = bs L
  | 0, k => .inl rfl
  | f + 1, k => by
    cases hn : ((rrowAt k).nm.toList == nm.toList) with
    | false =>
      simp only [rowsF, hn, cond_false]
      exact rows_hit f (k + 1)
    | true =>
      simp only [rowsF, hn, cond_true, hitF]
      cases hb : (badN (encE (hitI L A b1 b2 k)) == 0) with
      | false => exact .inl rfl
      | true =>
        cases ht : ((textS (hitI L A b1 b2 k)).toList == (bs L).toList) with
        | false => exact .inl rfl
        | true => exact .inr ⟨hitI L A b1 b2 k, wf_of (hit_wf A b1 b2 k), badN_0 (beq_iff_eq.1 hb), tl_eq ht⟩
theorem rpar_all (s : ByteArray) : rparF s.data.toList = (parI s, parB s) := by
  cases hp : parseP s with
  | some i =>
    obtain ⟨h1, h2⟩ := parse_text hp
    have e : s.data.toList = textL i := by rw [← h2]
    rw [e, rtrip h1 (parse_wf hp)]
    unfold parI parB
    rw [hp]
    try rfl
  | none =>
    unfold parI parB
    rw [hp]
    rcases rows_hit (L := s.data.toList) (A := (spN s.data.toList).length) (nm := bs (nm2 s.data.toList).1) (b1 := (nm1 s.data.toList).2) (b2 := (nm2 s.data.toList).2) 69 0 with h | ⟨j, j1, j2, j3⟩
    · exact h
    · have := trip j2 j1
      rw [show bs (textL j) = s from j3, hp] at this
      cases this
def prA (g : Nat) (t : ByteArray) : Value := match g with
  | 0 => .tuple #[.string t, .nilIface]
  | g + 1 => .tuple #[sv [], errV (g + 1)]
def paA (q : Bool) (i : Inst) : Value := bif q then .tuple #[instV i, .nilIface] else .tuple #[instV noInst, errV 0]
def rpA (q : Bool) (i : Inst) : Value := bif q then .tuple ⟨[instV i, .bool true]⟩ else .tuple ⟨[instV noInst, .bool false]⟩
def eqB (q b : Bool) : Bool := bif q then b else !b
theorem prAll {i : Inst} {g : Nat} (h : Nat.beq (encE i) g = true) (lo : Nat) (H : Heap) : CallOK Tryz.prog lo 9 [instV i] H (prA g (textS i)) H := by
  cases g with
  | zero => exact print0 h lo H
  | succ g => exact printg h (by omega) lo H
theorem enAll {i : Inst} {g : Nat} (h : (wfB i && Nat.beq (encE i) g) = true) (lo : Nat) (H : Heap) : CallOK Tryz.prog lo 10 [instV i] H (.tuple ⟨[.int .u32 (enW i), .int .i64 (badN g)]⟩) H := by
  rw [Bool.and_eq_true] at h
  have := enCall h.1 lo H
  rwa [show enB i = badN g by unfold enB; rw [Nat.eq_of_beq_eq_true h.2]] at this
theorem paAll {s : ByteArray} {q : Bool} (h : (ln s && eqB q (parB s)) = true) (lo : Nat) (H : Heap) : CallOK Tryz.prog lo 12 [.string s] H (paA q (parI s)) H := by
  cases q
  · exact par2 h lo H
  · exact par1 h lo H
theorem rpAllC {s : ByteArray} {q : Bool} (h : (ln s && eqB q (parB s)) = true) (lo : Nat) (H : Heap) : CallOK Tryz.prog lo 13 [.string s] H (rpA q (parI s)) H := by
  rw [Bool.and_eq_true] at h
  have k := (rparOK (L := s.data.toList) (by simpa [ln] using h.1)).call (gh_plains rfl) lo H
  rw [rpar_all s] at k
  cases q with
  | true =>
    have hb : parB s = true := h.2
    rw [hb] at k
    exact k
  | false =>
    have hb : parB s = false := by have := h.2; simpa [eqB] using this
    have hi : parI s = noInst := by
      unfold parB at hb
      unfold parI
      cases hp : parseP s with
      | none => rfl
      | some i => rw [hp] at hb; cases hb
    rw [hb, hi] at k
    exact k
noncomputable def sayΦ (g : Nat) (q : Bool) (E : Inst → Nat) (Pt : Inst → ByteArray) (Qo : ByteArray → Bool) (Qi : ByteArray → Inst) (Sm : Inst → Inst → Bool) (Wf : Inst → Bool) (Ew : Inst → Int) : Oracle := fun lo f args H => match f with
  | 8 => match args with
    | [] => some [(true, .bool true, H)]
    | _ => none
  | 9 => match args with
    | [.agg ⟨[.int .i64 op, .int .i64 rd, .int .i64 rs1, .int .i64 rs2, .int .i64 csr, .int .u32 imm, .bool aq, .bool rl]⟩] => some [(Nat.beq (E ⟨op, rd, rs1, rs2, csr, imm, aq, rl⟩) g, prA g (Pt ⟨op, rd, rs1, rs2, csr, imm, aq, rl⟩), H)]
    | _ => none
  | 10 => match args with
    | [.agg ⟨[.int .i64 op, .int .i64 rd, .int .i64 rs1, .int .i64 rs2, .int .i64 csr, .int .u32 imm, .bool aq, .bool rl]⟩] => some [(Wf ⟨op, rd, rs1, rs2, csr, imm, aq, rl⟩ && Nat.beq (E ⟨op, rd, rs1, rs2, csr, imm, aq, rl⟩) g, .tuple ⟨[.int .u32 (Ew ⟨op, rd, rs1, rs2, csr, imm, aq, rl⟩), .int .i64 (badN g)]⟩, H)]
    | _ => none
  | 11 => match args with
    | [.agg ⟨[.int .i64 op, .int .i64 rd, .int .i64 rs1, .int .i64 rs2, .int .i64 csr, .int .u32 imm, .bool aq, .bool rl]⟩] => some [(Wf ⟨op, rd, rs1, rs2, csr, imm, aq, rl⟩ && Nat.beq (E ⟨op, rd, rs1, rs2, csr, imm, aq, rl⟩) 0, .string (Pt ⟨op, rd, rs1, rs2, csr, imm, aq, rl⟩), H)]
    | _ => none
  | 12 => match args with
    | [.string s] => some [(ln s && eqB q (Qo s), paA q (Qi s), H)]
    | _ => none
  | 13 => match args with
    | [.string s] => some [(ln s && eqB q (Qo s), rpA q (Qi s), H)]
    | _ => none
  | 15 => match args with
    | [.agg ⟨[.int .i64 op, .int .i64 rd, .int .i64 rs1, .int .i64 rs2, .int .i64 csr, .int .u32 imm, .bool aq, .bool rl]⟩, .agg ⟨[.int .i64 op2, .int .i64 rd2, .int .i64 p2, .int .i64 q2, .int .i64 csr2, .int .u32 imm2, .bool aq2, .bool rl2]⟩] => some [(true, .bool (Sm ⟨op, rd, rs1, rs2, csr, imm, aq, rl⟩ ⟨op2, rd2, p2, q2, csr2, imm2, aq2, rl2⟩), H)]
    | _ => none
  | _ => none
theorem sayΦ_ok (g : Nat) (q : Bool) : CtxOK Tryz.prog (ctx (sayΦ g q encE textS parB parI sameI wfB enW)) := ctxOK fun lo f args H l v H' h hm => by
  unfold sayΦ at h
  split at h
  · split at h
    · cases h
      simp only [List.mem_cons, List.not_mem_nil, or_false, Prod.mk.injEq] at hm
      obtain ⟨hc, rfl, rfl⟩ := hm
      exact ⟨firstOK.call (fun a h => by cases h) lo H', rfl⟩
    · cases h
  · split at h
    · cases h
      simp only [List.mem_cons, List.not_mem_nil, or_false, Prod.mk.injEq] at hm
      obtain ⟨hc, rfl, rfl⟩ := hm
      exact ⟨prAll hc.symm lo H', rfl⟩
    · cases h
  · split at h
    · cases h
      simp only [List.mem_cons, List.not_mem_nil, or_false, Prod.mk.injEq] at hm
      obtain ⟨hc, rfl, rfl⟩ := hm
      exact ⟨enAll hc.symm lo H', rfl⟩
    · cases h
  · split at h
    · cases h
      simp only [List.mem_cons, List.not_mem_nil, or_false, Prod.mk.injEq] at hm
      obtain ⟨hc, rfl, rfl⟩ := hm
      exact ⟨prCall hc.symm lo H', rfl⟩
    · cases h
  · split at h
    · cases h
      simp only [List.mem_cons, List.not_mem_nil, or_false, Prod.mk.injEq] at hm
      obtain ⟨hc, rfl, rfl⟩ := hm
      exact ⟨paAll hc.symm lo H', rfl⟩
    · cases h
  · split at h
    · cases h
      simp only [List.mem_cons, List.not_mem_nil, or_false, Prod.mk.injEq] at hm
      obtain ⟨hc, rfl, rfl⟩ := hm
      exact ⟨rpAllC hc.symm lo H', rfl⟩
    · cases h
  · split at h
    · cases h
      simp only [List.mem_cons, List.not_mem_nil, or_false, Prod.mk.injEq] at hm
      obtain ⟨hc, rfl, rfl⟩ := hm
      exact ⟨(sameOK ⟨_, _, _, _, _, _, _, _⟩ ⟨_, _, _, _, _, _, _, _⟩).call (gh_plains rfl) lo H', rfl⟩
    · cases h
  · cases h
theorem say0t (E : Inst → Nat) (Pt : Inst → ByteArray) (Qo : ByteArray → Bool) (Qi : ByteArray → Inst) (Sm : Inst → Inst → Bool) (Wf : Inst → Bool) (Ew : Inst → Int) (i : Inst) (s : ByteArray) : callK (ctx (sayΦ 0 true E Pt Qo Qi Sm Wf Ew)) 20 0 3 [instV i, .string s] [] (fun v _ => some v) = bif decide (Int.ofNat s.size > 200) then some (.bool true) else bif Nat.beq (E i) 0 then (bif Wf i && Nat.beq (E i) 0 then (bif Wf i && Nat.beq (E i) 0 then (bif ln s && eqB true (Qo s) then (bif ln s && eqB true (Qo s) then (bif (Pt i).toList == (Pt i).toList then (bif Sm (Qi s) (Qi s) then some (.bool true) else some (.bool false)) else some (.bool false)) else none) else none) else none) else none) else none := by kernel_rfl
theorem say0f (E : Inst → Nat) (Pt : Inst → ByteArray) (Qo : ByteArray → Bool) (Qi : ByteArray → Inst) (Sm : Inst → Inst → Bool) (Wf : Inst → Bool) (Ew : Inst → Int) (i : Inst) (s : ByteArray) : callK (ctx (sayΦ 0 false E Pt Qo Qi Sm Wf Ew)) 20 0 3 [instV i, .string s] [] (fun v _ => some v) = bif decide (Int.ofNat s.size > 200) then some (.bool true) else bif Nat.beq (E i) 0 then (bif Wf i && Nat.beq (E i) 0 then (bif Wf i && Nat.beq (E i) 0 then (bif ln s && eqB false (Qo s) then (bif ln s && eqB false (Qo s) then (bif (Pt i).toList == (Pt i).toList then (bif Sm noInst noInst then some (.bool true) else some (.bool false)) else some (.bool false)) else none) else none) else none) else none) else none := by kernel_rfl
theorem say1t (E : Inst → Nat) (Pt : Inst → ByteArray) (Qo : ByteArray → Bool) (Qi : ByteArray → Inst) (Sm : Inst → Inst → Bool) (Wf : Inst → Bool) (Ew : Inst → Int) (i : Inst) (s : ByteArray) : callK (ctx (sayΦ 1 true E Pt Qo Qi Sm Wf Ew)) 20 0 3 [instV i, .string s] [] (fun v _ => some v) = bif decide (Int.ofNat s.size > 200) then some (.bool true) else bif Nat.beq (E i) 1 then (bif Wf i && Nat.beq (E i) 1 then (bif ln s && eqB true (Qo s) then (bif ln s && eqB true (Qo s) then (bif Sm (Qi s) (Qi s) then some (.bool true) else some (.bool false)) else none) else none) else none) else none := by kernel_rfl
theorem say1f (E : Inst → Nat) (Pt : Inst → ByteArray) (Qo : ByteArray → Bool) (Qi : ByteArray → Inst) (Sm : Inst → Inst → Bool) (Wf : Inst → Bool) (Ew : Inst → Int) (i : Inst) (s : ByteArray) : callK (ctx (sayΦ 1 false E Pt Qo Qi Sm Wf Ew)) 20 0 3 [instV i, .string s] [] (fun v _ => some v) = bif decide (Int.ofNat s.size > 200) then some (.bool true) else bif Nat.beq (E i) 1 then (bif Wf i && Nat.beq (E i) 1 then (bif ln s && eqB false (Qo s) then (bif ln s && eqB false (Qo s) then (bif Sm noInst noInst then some (.bool true) else some (.bool false)) else none) else none) else none) else none := by kernel_rfl
theorem say2t (E : Inst → Nat) (Pt : Inst → ByteArray) (Qo : ByteArray → Bool) (Qi : ByteArray → Inst) (Sm : Inst → Inst → Bool) (Wf : Inst → Bool) (Ew : Inst → Int) (i : Inst) (s : ByteArray) : callK (ctx (sayΦ 2 true E Pt Qo Qi Sm Wf Ew)) 20 0 3 [instV i, .string s] [] (fun v _ => some v) = bif decide (Int.ofNat s.size > 200) then some (.bool true) else bif Nat.beq (E i) 2 then (bif Wf i && Nat.beq (E i) 2 then (bif ln s && eqB true (Qo s) then (bif ln s && eqB true (Qo s) then (bif Sm (Qi s) (Qi s) then some (.bool true) else some (.bool false)) else none) else none) else none) else none := by kernel_rfl
theorem say2f (E : Inst → Nat) (Pt : Inst → ByteArray) (Qo : ByteArray → Bool) (Qi : ByteArray → Inst) (Sm : Inst → Inst → Bool) (Wf : Inst → Bool) (Ew : Inst → Int) (i : Inst) (s : ByteArray) : callK (ctx (sayΦ 2 false E Pt Qo Qi Sm Wf Ew)) 20 0 3 [instV i, .string s] [] (fun v _ => some v) = bif decide (Int.ofNat s.size > 200) then some (.bool true) else bif Nat.beq (E i) 2 then (bif Wf i && Nat.beq (E i) 2 then (bif ln s && eqB false (Qo s) then (bif ln s && eqB false (Qo s) then (bif Sm noInst noInst then some (.bool true) else some (.bool false)) else none) else none) else none) else none := by kernel_rfl
theorem say3t (E : Inst → Nat) (Pt : Inst → ByteArray) (Qo : ByteArray → Bool) (Qi : ByteArray → Inst) (Sm : Inst → Inst → Bool) (Wf : Inst → Bool) (Ew : Inst → Int) (i : Inst) (s : ByteArray) : callK (ctx (sayΦ 3 true E Pt Qo Qi Sm Wf Ew)) 20 0 3 [instV i, .string s] [] (fun v _ => some v) = bif decide (Int.ofNat s.size > 200) then some (.bool true) else bif Nat.beq (E i) 3 then (bif Wf i && Nat.beq (E i) 3 then (bif ln s && eqB true (Qo s) then (bif ln s && eqB true (Qo s) then (bif Sm (Qi s) (Qi s) then some (.bool true) else some (.bool false)) else none) else none) else none) else none := by kernel_rfl
theorem say3f (E : Inst → Nat) (Pt : Inst → ByteArray) (Qo : ByteArray → Bool) (Qi : ByteArray → Inst) (Sm : Inst → Inst → Bool) (Wf : Inst → Bool) (Ew : Inst → Int) (i : Inst) (s : ByteArray) : callK (ctx (sayΦ 3 false E Pt Qo Qi Sm Wf Ew)) 20 0 3 [instV i, .string s] [] (fun v _ => some v) = bif decide (Int.ofNat s.size > 200) then some (.bool true) else bif Nat.beq (E i) 3 then (bif Wf i && Nat.beq (E i) 3 then (bif ln s && eqB false (Qo s) then (bif ln s && eqB false (Qo s) then (bif Sm noInst noInst then some (.bool true) else some (.bool false)) else none) else none) else none) else none := by kernel_rfl
theorem ln200 {s : ByteArray} (h : ¬ (Int.ofNat s.size > 200)) : ln s = true := by
  simp only [Int.ofNat_eq_natCast] at h
  simp only [ln, decide_eq_true_eq]
  omega
theorem errs4 (i : Inst) : encE i = 0 ∨ encE i = 1 ∨ encE i = 2 ∨ encE i = 3 := by
  rcases encV_cases i with h | h | h | h
  · exact .inl h.1
  · exact .inr (.inl h.1)
  · exact .inr (.inr (.inl h.1))
  · exact .inr (.inr (.inr h.1))
theorem asmSaysOK (i : Inst) (hi : i.wf) (s : ByteArray) : PureOK Tryz.prog 3 [instV i, .string s] (.bool true) := by
  have hw := wfB_of hi
  have hq : ∃ q, eqB q (parB s) = true := ⟨parB s, by cases parB s <;> rfl⟩
  obtain ⟨q, hq⟩ := hq
  rcases errs4 i with he | he | he | he <;> cases q
  · have r := say0f encE textS parB parI sameI wfB enW i s
    cases hs : decide (Int.ofNat s.size > 200) with
    | true => rw [hs, cond_true] at r; exact PureOK.of_run (sayΦ_ok 0 false) r (Gh.plain rfl)
    | false =>
      rw [hs, cond_false, he, hw, hq, ln200 (of_decide_eq_false hs), sameI_refl, beq_self_eq_true] at r
      exact PureOK.of_run (sayΦ_ok 0 false) r (Gh.plain rfl)
  · have r := say0t encE textS parB parI sameI wfB enW i s
    cases hs : decide (Int.ofNat s.size > 200) with
    | true => rw [hs, cond_true] at r; exact PureOK.of_run (sayΦ_ok 0 true) r (Gh.plain rfl)
    | false =>
      rw [hs, cond_false, he, hw, hq, ln200 (of_decide_eq_false hs), sameI_refl, beq_self_eq_true] at r
      exact PureOK.of_run (sayΦ_ok 0 true) r (Gh.plain rfl)
  · have r := say1f encE textS parB parI sameI wfB enW i s
    cases hs : decide (Int.ofNat s.size > 200) with
    | true => rw [hs, cond_true] at r; exact PureOK.of_run (sayΦ_ok 1 false) r (Gh.plain rfl)
    | false =>
      rw [hs, cond_false, he, hw, hq, ln200 (of_decide_eq_false hs), sameI_refl] at r
      exact PureOK.of_run (sayΦ_ok 1 false) r (Gh.plain rfl)
  · have r := say1t encE textS parB parI sameI wfB enW i s
    cases hs : decide (Int.ofNat s.size > 200) with
    | true => rw [hs, cond_true] at r; exact PureOK.of_run (sayΦ_ok 1 true) r (Gh.plain rfl)
    | false =>
      rw [hs, cond_false, he, hw, hq, ln200 (of_decide_eq_false hs), sameI_refl] at r
      exact PureOK.of_run (sayΦ_ok 1 true) r (Gh.plain rfl)
  · have r := say2f encE textS parB parI sameI wfB enW i s
    cases hs : decide (Int.ofNat s.size > 200) with
    | true => rw [hs, cond_true] at r; exact PureOK.of_run (sayΦ_ok 2 false) r (Gh.plain rfl)
    | false =>
      rw [hs, cond_false, he, hw, hq, ln200 (of_decide_eq_false hs), sameI_refl] at r
      exact PureOK.of_run (sayΦ_ok 2 false) r (Gh.plain rfl)
  · have r := say2t encE textS parB parI sameI wfB enW i s
    cases hs : decide (Int.ofNat s.size > 200) with
    | true => rw [hs, cond_true] at r; exact PureOK.of_run (sayΦ_ok 2 true) r (Gh.plain rfl)
    | false =>
      rw [hs, cond_false, he, hw, hq, ln200 (of_decide_eq_false hs), sameI_refl] at r
      exact PureOK.of_run (sayΦ_ok 2 true) r (Gh.plain rfl)
  · have r := say3f encE textS parB parI sameI wfB enW i s
    cases hs : decide (Int.ofNat s.size > 200) with
    | true => rw [hs, cond_true] at r; exact PureOK.of_run (sayΦ_ok 3 false) r (Gh.plain rfl)
    | false =>
      rw [hs, cond_false, he, hw, hq, ln200 (of_decide_eq_false hs), sameI_refl] at r
      exact PureOK.of_run (sayΦ_ok 3 false) r (Gh.plain rfl)
  · have r := say3t encE textS parB parI sameI wfB enW i s
    cases hs : decide (Int.ofNat s.size > 200) with
    | true => rw [hs, cond_true] at r; exact PureOK.of_run (sayΦ_ok 3 true) r (Gh.plain rfl)
    | false =>
      rw [hs, cond_false, he, hw, hq, ln200 (of_decide_eq_false hs), sameI_refl] at r
      exact PureOK.of_run (sayΦ_ok 3 true) r (Gh.plain rfl)
end Go.Proofs.YtgkicojmgokinaaGreatDoor.Ab
