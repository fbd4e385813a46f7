/- Several texts as one: AsmOneRun, AsmOneOk. -/
import Derived.Test.YtgkicojmgokinaaGreatDoorAsmTrip
import Derived.Test.YtgkicojmgokinaaGreatDoorAsmFirst0
namespace Go.Proofs.YtgkicojmgokinaaGreatDoor.Ab
open Go Go.RowKit
set_option linter.unusedVariables false
set_option linter.unusedSimpArgs false
set_option maxRecDepth 100000
/-! ### SameInst -/
def sameI (a b : Inst) : Bool := a.op == b.op && (a.rd == b.rd && (a.rs1 == b.rs1 && (a.rs2 == b.rs2 && (a.csr == b.csr && (a.imm == b.imm && (a.aq == b.aq && a.rl == b.rl))))))
def tb (x y : Bool) (k : Option Value) : Option Value := bif x then (bif y then k else some (.bool false)) else (bif y then some (.bool false) else k)
theorem same_run (a b : Inst) : callK (ctx noΦ) 20 0 15 [instV a, instV b] [] (fun v _ => some v) =
    bif a.op == b.op then (bif a.rd == b.rd then (bif a.rs1 == b.rs1 then (bif a.rs2 == b.rs2 then (bif a.csr == b.csr then (bif a.imm == b.imm then (tb a.aq b.aq (tb a.rl b.rl (some (.bool true)))) else some (.bool false)) else some (.bool false)) else some (.bool false)) else some (.bool false)) else some (.bool false)) else some (.bool false) := by kernel_rfl
theorem sameOK (a b : Inst) : PureOK Tryz.prog 15 [instV a, instV b] (.bool (sameI a b)) := by
  refine PureOK.of_run noOK ((same_run a b).trans ?_) (Gh.plain rfl)
  unfold sameI tb
  cases (a.op == b.op) <;> cases (a.rd == b.rd) <;> cases (a.rs1 == b.rs1) <;> cases (a.rs2 == b.rs2) <;> cases (a.csr == b.csr) <;> cases (a.imm == b.imm) <;> first | rfl | (cases a.aq <;> cases b.aq <;> cases a.rl <;> cases b.rl <;> rfl)
theorem sameI_eq {a b : Inst} (h : sameI a b = true) : a = b := by
  obtain ⟨a1, a2, a3, a4, a5, a6, a7, a8⟩ := a
  obtain ⟨b1, b2, b3, b4, b5, b6, b7, b8⟩ := b
  simp only [sameI, Bool.and_eq_true, beq_iff_eq] at h
  obtain ⟨rfl, rfl, rfl, rfl, rfl, rfl, rfl, rfl⟩ := h
  rfl
theorem sameI_refl (a : Inst) : sameI a a = true := by simp [sameI]
noncomputable def oneΦ (E : Inst → Nat) (Pt : Inst → ByteArray) (Qo : ByteArray → Bool) (Qi : ByteArray → Inst) (Sm : Inst → Inst → Bool) : Oracle := fun lo f args H => match f with
  | 8 => match args with
    | [] => some [(true, .bool true, H)]
    | _ => none
  | 9 => match args with
    | [.agg ⟨[.int .i64 op, .int .i64 rd, .int .i64 rs1, .int .i64 rs2, .int .i64 csr, .int .u32 imm, .bool aq, .bool rl]⟩] => some [(Nat.beq (E ⟨op, rd, rs1, rs2, csr, imm, aq, rl⟩) 0, .tuple #[.string (Pt ⟨op, rd, rs1, rs2, csr, imm, aq, rl⟩), .nilIface], H), (Nat.beq (E ⟨op, rd, rs1, rs2, csr, imm, aq, rl⟩) 1, .tuple #[sv [], errV 1], H), (Nat.beq (E ⟨op, rd, rs1, rs2, csr, imm, aq, rl⟩) 2, .tuple #[sv [], errV 2], H), (Nat.beq (E ⟨op, rd, rs1, rs2, csr, imm, aq, rl⟩) 3, .tuple #[sv [], errV 3], H)]
    | _ => none
  | 12 => match args with
    | [.string s] => some [(ln s && Qo s, .tuple #[instV (Qi s), .nilIface], H), (ln s && !Qo s, .tuple #[instV noInst, errV 0], H)]
    | _ => none
  | 15 => match args with
    | [.agg ⟨[.int .i64 op, .int .i64 rd, .int .i64 rs1, .int .i64 rs2, .int .i64 csr, .int .u32 imm, .bool aq, .bool rl]⟩, .agg ⟨[.int .i64 op2, .int .i64 rd2, .int .i64 p2, .int .i64 q2, .int .i64 csr2, .int .u32 imm2, .bool aq2, .bool rl2]⟩] => some [(true, .bool (Sm ⟨op, rd, rs1, rs2, csr, imm, aq, rl⟩ ⟨op2, rd2, p2, q2, csr2, imm2, aq2, rl2⟩), H)]
    | _ => none
  | _ => none
theorem oneΦ_ok : CtxOK Tryz.prog (ctx (oneΦ encE textS parB parI sameI)) := ctxOK fun lo f args H l v H' h hm => by
  unfold oneΦ at h
  split at h
  · split at h
    · cases h
      simp only [List.mem_cons, List.not_mem_nil, or_false, Prod.mk.injEq] at hm
      obtain ⟨hc, rfl, rfl⟩ := hm
      exact ⟨firstOK.call (fun a h => by cases h) lo H', rfl⟩
    · cases h
  · split at h
    · cases h
      simp only [List.mem_cons, List.not_mem_nil, or_false, Prod.mk.injEq] at hm
      rcases hm with ⟨hc, rfl, rfl⟩ | ⟨hc, rfl, rfl⟩ | ⟨hc, rfl, rfl⟩ | ⟨hc, rfl, rfl⟩
      · exact ⟨print0 hc.symm lo H', rfl⟩
      · exact ⟨printg hc.symm (by decide) lo H', rfl⟩
      · exact ⟨printg hc.symm (by decide) lo H', rfl⟩
      · exact ⟨printg hc.symm (by decide) lo H', rfl⟩
    · cases h
  · split at h
    · cases h
      simp only [List.mem_cons, List.not_mem_nil, or_false, Prod.mk.injEq] at hm
      rcases hm with ⟨hc, rfl, rfl⟩ | ⟨hc, rfl, rfl⟩
      · exact ⟨par1 hc.symm lo H', rfl⟩
      · exact ⟨par2 hc.symm lo H', rfl⟩
    · cases h
  · split at h
    · cases h
      simp only [List.mem_cons, List.not_mem_nil, or_false, Prod.mk.injEq] at hm
      obtain ⟨hc, rfl, rfl⟩ := hm
      exact ⟨(sameOK ⟨_, _, _, _, _, _, _, _⟩ ⟨_, _, _, _, _, _, _, _⟩).call (gh_plains rfl) lo H', rfl⟩
    · cases h
  · cases h
def at2 (a : Int) (T : ByteArray) : Int := (IntKind.i64.wrap (a.tmod (Int.ofNat T.size) + Int.ofNat T.size)).tmod (Int.ofNat T.size)
def gLo (T : ByteArray) (x : Int) : Bool := true && (decide (0 ≤ x) && (Nat.ble 0 x.toNat && Nat.ble x.toNat T.size))
def gHi (T : ByteArray) (x : Int) : Bool := decide (0 ≤ x) && (true && (Nat.ble x.toNat T.size && Nat.ble T.size T.size))
def cb (c : Int) : ByteArray := ⟨⟨[Value.int .u8 c].map byteOf⟩⟩
def lo1 (T : ByteArray) (x : Int) : ByteArray := T.extract 0 x.toNat
def hi1 (T : ByteArray) (x : Int) : ByteArray := T.extract x.toNat T.size
def oneRnd (E : Inst → Nat) (Pt : Inst → ByteArray) (Qo : ByteArray → Bool) (Qi : ByteArray → Inst) (Sm : Inst → Inst → Bool) (i : Inst) (T X : ByteArray) (k : Option Value) : Option Value :=
  bif ln X && Qo X then (bif Nat.beq (E (Qi X)) 0 then (bif !((Pt (Qi X)).toList == X.toList) then some (.bool false) else bif Sm (Qi X) i then (bif X.toList == T.toList then k else some (.bool false)) else (bif X.toList == T.toList then some (.bool false) else k)) else
    bif Nat.beq (E (Qi X)) 1 then some (.bool false) else bif Nat.beq (E (Qi X)) 2 then some (.bool false) else bif Nat.beq (E (Qi X)) 3 then some (.bool false) else none) else bif ln X && !Qo X then k else none
def oneTail (E : Inst → Nat) (Pt : Inst → ByteArray) (Qo : ByteArray → Bool) (Qi : ByteArray → Inst) (Sm : Inst → Inst → Bool) (i : Inst) (T : ByteArray) (x c : Int) : Option Value :=
  bif gLo T x then (bif gHi T x then (bif [Value.int .u8 c].all isByte then (bif okLen (lo1 T x) (cb c) then (bif okLen (lo1 T x ++ cb c) (hi1 T x) then
    (bif gLo T x then (bif gHi T (IntKind.i64.wrap (x + 1)) then (bif okLen (lo1 T x) (hi1 T (IntKind.i64.wrap (x + 1))) then
      (bif gLo T x then (bif gHi T (IntKind.i64.wrap (x + 1)) then (bif [Value.int .u8 c].all isByte then (bif okLen (lo1 T x) (cb c) then (bif okLen (lo1 T x ++ cb c) (hi1 T (IntKind.i64.wrap (x + 1))) then
        (oneRnd E Pt Qo Qi Sm i T ((lo1 T x ++ cb c) ++ hi1 T x) (oneRnd E Pt Qo Qi Sm i T (lo1 T x ++ hi1 T (IntKind.i64.wrap (x + 1))) (oneRnd E Pt Qo Qi Sm i T ((lo1 T x ++ cb c) ++ hi1 T (IntKind.i64.wrap (x + 1))) (some (.bool true)))))
      else none) else none) else none) else none) else none)
    else none) else none) else none)
  else none) else none) else none) else none) else none
def oneT (E : Inst → Nat) (Pt : Inst → ByteArray) (Qo : ByteArray → Bool) (Qi : ByteArray → Inst) (Sm : Inst → Inst → Bool) (i : Inst) (a c : Int) : Option Value :=
  bif Nat.beq (E i) 0 then (bif Int.ofNat (Pt i).size == 0 then (bif (Pt i).toList == (ByteArray.mk ⟨[]⟩).toList then some (.bool true) else some (.bool false)) else
    (bif ln (Pt i) && Qo (Pt i) then (bif Sm (Qi (Pt i)) i then (bif !(Int.ofNat (Pt i).size == 0) then (bif !(Int.ofNat (Pt i).size == 0) then oneTail E Pt Qo Qi Sm i (Pt i) (at2 a (Pt i)) c else none) else none) else some (.bool false)) else bif ln (Pt i) && !Qo (Pt i) then some (.bool false) else none)) else
  bif Nat.beq (E i) 1 then some (.bool true) else bif Nat.beq (E i) 2 then some (.bool true) else bif Nat.beq (E i) 3 then some (.bool true) else none
theorem one_run (E : Inst → Nat) (Pt : Inst → ByteArray) (Qo : ByteArray → Bool) (Qi : ByteArray → Inst) (Sm : Inst → Inst → Bool) (i : Inst) (a c : Int) : callK (ctx (oneΦ E Pt Qo Qi Sm)) 20 0 5 [instV i, .int .i64 a, .int .u8 c] [] (fun v _ => some v) = oneT E Pt Qo Qi Sm i a c := by kernel_rfl
end Go.Proofs.YtgkicojmgokinaaGreatDoor.Ab
namespace Go.Proofs.YtgkicojmgokinaaGreatDoor.Ab
open Go Go.RowKit
set_option linter.unusedVariables false
set_option linter.unusedSimpArgs false
set_option maxRecDepth 100000
/-- The instruction's fields are those of a word of 32 bits. -/
def Inst.wf (i : Inst) : Prop := 0 ≤ i.imm ∧ i.imm < 4294967296
theorem tl_eq {a b : ByteArray} (h : (a.toList == b.toList) = true) : a = b := by
  rw [beq_iff_eq, Lib.toList_data, Lib.toList_data] at h
  obtain ⟨⟨a⟩⟩ := a
  obtain ⟨⟨b⟩⟩ := b
  have h : a = b := h
  rw [h]
theorem name_pos : ∀ k : Nat, k < 69 → 1 ≤ (names.getD k []).length := by decide
theorem text_pos {i : Inst} (h : Fits i) : 1 ≤ (textL i).length := by
  have ho := h.op
  simp only [isOp, Bool.and_eq_true, decide_eq_true_eq] at ho
  have := name_pos (i.op - 1).toNat (by omega)
  unfold textL nameF
  simp only [List.length_append]
  omega
theorem par_text {i : Inst} (h : encE i = 0) (hi : i.wf) : parB (textS i) = true ∧ parI (textS i) = i := by
  have t : parseP (textS i) = some i := trip h hi
  unfold parB parI
  rw [t]; exact ⟨rfl, rfl⟩
theorem par_inv {X : ByteArray} (h : parB X = true) : encE (parI X) = 0 ∧ textS (parI X) = X := by
  unfold parB at h
  unfold parI
  cases hp : parseP X with
  | none => rw [hp] at h; cases h
  | some y => exact parse_text hp
theorem ln_of {X : ByteArray} (h : X.size ≤ 100000) : ln X = true := by simp [ln, h]
theorem rnd_ok {i : Inst} (h : encE i = 0) (hi : i.wf) {X : ByteArray} (hX : X.size ≤ 100000) : oneRnd encE textS parB parI sameI i (textS i) X (some (.bool true)) = some (.bool true) := by
  unfold oneRnd
  rw [ln_of hX]
  cases hp : parB X with
  | false => rfl
  | true =>
    obtain ⟨h1, h2⟩ := par_inv hp
    simp only [Bool.true_and, cond_true]
    rw [h1, h2]
    have e1 : (X.toList == X.toList) = true := beq_self_eq_true _
    rw [e1]
    simp only [Nat.beq, cond_true, Bool.not_true, cond_false]
    cases hs : sameI (parI X) i with
    | true =>
      have e := sameI_eq hs
      rw [e] at h2
      rw [h2, e1]; rfl
    | false =>
      cases ht : (X.toList == (textS i).toList) with
      | false => rfl
      | true =>
        have e := tl_eq ht
        rw [e, (par_text h hi).2, sameI_refl] at hs
        cases hs
theorem sz_lo (T : ByteArray) (x : Int) : (lo1 T x).size ≤ T.size := by unfold lo1; rw [ByteArray.size_extract]; omega
theorem sz_hi (T : ByteArray) (x : Int) : (hi1 T x).size ≤ T.size := by unfold hi1; rw [ByteArray.size_extract]; omega
theorem okLen_sz {a b : ByteArray} (h : a.size + b.size ≤ 1000000) : okLen a b = true := by simp only [okLen, decide_eq_true_eq]; omega
theorem tail_ok {i : Inst} (h : encE i = 0) (hi : i.wf) {x c : Int} (hx : 0 ≤ x ∧ x < (textS i).size) (hT : (textS i).size ≤ 200) (hc : 0 ≤ c ∧ c < 256) : oneTail encE textS parB parI sameI i (textS i) x c = some (.bool true) := by
  have w1 : IntKind.i64.wrap (x + 1) = x + 1 := by rw [IntKind.wrap_i64]; omega
  unfold oneTail
  rw [w1]
  have a1 := sz_lo (textS i) x
  have a2 := sz_hi (textS i) x
  have a3 := sz_hi (textS i) (x + 1)
  have a4 : (cb c).size = 1 := rfl
  have a5 : (lo1 (textS i) x ++ cb c).size = (lo1 (textS i) x).size + 1 := by rw [ByteArray.size_append, a4]
  have b1 : gLo (textS i) x = true := by
    simp only [gLo, Bool.true_and, Bool.and_eq_true, decide_eq_true_eq, Nat.ble_eq]
    omega
  have b2 : ∀ y : Int, 0 ≤ y → y ≤ (textS i).size → gHi (textS i) y = true := fun y h0 h1 => by
    simp only [gHi, Bool.true_and, Bool.and_eq_true, decide_eq_true_eq, Nat.ble_eq]
    omega
  have b3 : [Value.int .u8 c].all isByte = true := by simp [isByte, hc.1, hc.2]
  rw [b1, b2 x hx.1 (by omega), b3, b2 (x + 1) (by omega) (by omega)]
  rw [okLen_sz (a := lo1 (textS i) x) (b := cb c) (by omega), okLen_sz (a := lo1 (textS i) x ++ cb c) (b := hi1 (textS i) x) (by omega), okLen_sz (a := lo1 (textS i) x) (b := hi1 (textS i) (x + 1)) (by omega), okLen_sz (a := lo1 (textS i) x ++ cb c) (b := hi1 (textS i) (x + 1)) (by omega)]
  simp only [cond_true]
  rw [rnd_ok h hi (X := lo1 (textS i) x ++ cb c ++ hi1 (textS i) (x + 1)) (by rw [ByteArray.size_append]; omega), rnd_ok h hi (X := lo1 (textS i) x ++ hi1 (textS i) (x + 1)) (by rw [ByteArray.size_append]; omega), rnd_ok h hi (X := lo1 (textS i) x ++ cb c ++ hi1 (textS i) x) (by rw [ByteArray.size_append]; omega)]
theorem tmod_gt (a : Int) {n : Int} (h : 0 < n) : -n < a.tmod n := by
  rcases Int.lt_or_le a 0 with h0 | h0
  · have : (-a).tmod n = -(a.tmod n) := Int.neg_tmod ..
    have := Int.tmod_lt_of_pos (-a) h
    omega
  · have := Int.tmod_nonneg n h0
    omega
theorem one_tree {i : Inst} (hi : i.wf) (a : Int) {c : Int} (hc : 0 ≤ c ∧ c < 256) : oneT encE textS parB parI sameI i a c = some (.bool true) := by
  unfold oneT
  rcases encV_cases i with ⟨h, _⟩ | ⟨h, _⟩ | ⟨h, _⟩ | ⟨h, _⟩
  · have hf := (enc_good h).fits
    have hl := text_len hf
    have hp := text_pos hf
    have hs : (textS i).size = (textL i).length := rfl
    rw [h]
    have e0 : (Int.ofNat (textS i).size == 0) = false := by rw [beq_eq_false_iff_ne, hs]; intro e; have : ((textL i).length : Int) = 0 := e; omega
    obtain ⟨p1, p2⟩ := par_text h hi
    rw [e0, ln_of (X := textS i) (by omega), p1, p2, sameI_refl]
    have hx : 0 ≤ at2 a (textS i) ∧ at2 a (textS i) < (textS i).size := by
      unfold at2
      have hn : Int.ofNat (textS i).size = ((textL i).length : Int) := rfl
      rw [hn]
      generalize hnn : ((textL i).length : Int) = n
      have hn1 : 1 ≤ n := by omega
      have hn2 : n ≤ 200 := by omega
      have t1 : -n < a.tmod n := tmod_gt a (by omega)
      have t2 : a.tmod n < n := Int.tmod_lt_of_pos a (by omega)
      have w : IntKind.i64.wrap (a.tmod n + n) = a.tmod n + n := by rw [IntKind.wrap_i64]; omega
      rw [w]
      have t3 : 0 ≤ (a.tmod n + n).tmod n := Int.tmod_nonneg _ (by omega)
      have t4 : (a.tmod n + n).tmod n < n := Int.tmod_lt_of_pos _ (by omega)
      exact ⟨t3, by rw [hs]; omega⟩
    have ht := tail_ok h hi (x := at2 a (textS i)) hx (by omega) hc
    simp only [Nat.beq, cond_true, cond_false, Bool.true_and, Bool.not_false]
    exact ht
  all_goals rw [h]; rfl
theorem asmOneOK {i : Inst} (hi : i.wf) (a : Int) {c : Int} (hc : 0 ≤ c ∧ c < 256) : PureOK Tryz.prog 5 [instV i, .int .i64 a, .int .u8 c] (.bool true) :=
  PureOK.of_run oneΦ_ok ((one_run encE textS parB parI sameI i a c).trans (one_tree hi a hc)) (Gh.plain rfl)
end Go.Proofs.YtgkicojmgokinaaGreatDoor.Ab
