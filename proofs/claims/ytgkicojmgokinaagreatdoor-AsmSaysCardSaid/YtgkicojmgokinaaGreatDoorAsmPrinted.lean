/- Trimmed: AsmPrinted -/
import Derived.Test.YtgkicojmgokinaaGreatDoorAsmParts
namespace Go.Proofs.YtgkicojmgokinaaGreatDoor.Ab
open Go Go.RowKit
set_option linter.unusedVariables false
set_option linter.unusedSimpArgs false
set_option maxRecDepth 100000
def caq : ByteArray := ⟨⟨[46, 97, 113]⟩⟩
def crl : ByteArray := ⟨⟨[46, 114, 108]⟩⟩
def csp : ByteArray := ⟨⟨[32]⟩⟩
def ccs : ByteArray := ⟨⟨[44, 32]⟩⟩
def isTxt : Value → Bool
  | .string _ => true
  | _ => false
def txtOf : Value → List UInt8
  | .string s => s.data.toList
  | _ => []
theorem txts : ∀ {xs : List Value}, xs.all isTxt = true → xs = (xs.map txtOf).map sv
  | [], _ => rfl
  | x :: xs, h => by
    simp only [List.all_cons, Bool.and_eq_true] at h
    rw [List.map_cons, List.map_cons, ← txts h.2]
    congr 1
    cases x <;> first | (exact absurd h.1 Bool.false_ne_true) | rfl
def joinG (xs : List Value) (n : Nat) (p : ByteArray) : Bool := xs.all isTxt && (Nat.beq xs.length n && (!xs.isEmpty && (decide ((Lib.join (xs.map txtOf) p.data.toList).length ≤ 100000) && decide (xs.length ≤ 100000))))
def joinS (xs : List Value) (p : ByteArray) : ByteArray := bs (Lib.join (xs.map txtOf) p.data.toList)
theorem joinOK' {xs : List Value} {n : Nat} {p : ByteArray} (h : joinG xs n p = true) : PureOK Tryz.prog 28 [gs 1 xs n, .string p] (.string (joinS xs p)) ∧ (∀ x ∈ xs, Gh x) := by
  simp only [joinG, Bool.and_eq_true, Bool.not_eq_true', decide_eq_true_eq] at h
  obtain ⟨h1, h2, h3, h4, h5⟩ := h
  have e := txts h1
  have hn := Nat.eq_of_beq_eq_true h2
  obtain ⟨⟨l⟩⟩ := p
  have hne : xs.map txtOf ≠ [] := fun hh => by
    have : xs = [] := by simpa using hh
    rw [this] at h3; cases h3
  have := joinOK (xs.map txtOf) l hne (by show (Lib.join (xs.map txtOf) l).length ≤ _; have : (Lib.join (xs.map txtOf) l).length ≤ 100000 := h4; omega) (by rw [List.length_map]; omega)
  rw [← e, List.length_map, hn] at this
  refine ⟨this, fun x hx => ?_⟩
  rw [e] at hx
  exact gh_plains (sv_plain _) x hx
def fitsB (i : Inst) : Bool := isOp i.op && (isReg i.rd && (isReg i.rs1 && isReg i.rs2))
theorem fitsB_fits {i : Inst} (h : fitsB i = true) : Fits i := by
  simp only [fitsB, Bool.and_eq_true] at h
  exact ⟨h.1, h.2.1, h.2.2.1, h.2.2.2⟩
def errN : Value → Nat
  | .tuple ⟨[_, .iface _ (.func _ _ ⟨[.int _ (.ofNat 1)]⟩)]⟩ => 1
  | .tuple ⟨[_, .iface _ (.func _ _ ⟨[.int _ (.ofNat 2)]⟩)]⟩ => 2
  | .tuple ⟨[_, .iface _ (.func _ _ ⟨[.int _ (.ofNat 3)]⟩)]⟩ => 3
  | _ => 0
def wordN : Value → Int
  | .tuple ⟨[.int _ w, _]⟩ => w
  | _ => 0
noncomputable def encE (i : Inst) : Nat := errN (encV i)
noncomputable def encW (i : Inst) : Int := wordN (encV i)
theorem encV_cases (i : Inst) : (encE i = 0 ∧ encV i = encOk (encW i)) ∨ (encE i = 1 ∧ encV i = encErr 1) ∨ (encE i = 2 ∧ encV i = encErr 2) ∨ (encE i = 3 ∧ encV i = encErr 3) := by
  have h := encV_R i
  unfold encE encW
  generalize encV i = v at h
  cases h with
  | ok w => exact .inl ⟨rfl, rfl⟩
  | err g hg =>
    simp only [List.mem_cons, List.not_mem_nil, or_false] at hg
    rcases hg with rfl | rfl | rfl
    · exact .inr (.inl ⟨rfl, rfl⟩)
    · exact .inr (.inr (.inl ⟨rfl, rfl⟩))
    · exact .inr (.inr (.inr ⟨rfl, rfl⟩))
theorem encOk0 {i : Inst} (h : Nat.beq (encE i) 0 = true) : PureOK Tryz.prog 25 [instV i] (encOk (encW i)) := by
  have h := Nat.eq_of_beq_eq_true h
  have k := encodeOK i
  rcases encV_cases i with ⟨a, b⟩ | ⟨a, b⟩ | ⟨a, b⟩ | ⟨a, b⟩
  · rwa [b] at k
  all_goals omega
theorem encg {i : Inst} {g : Nat} (h : Nat.beq (encE i) g = true) (hg : 1 ≤ g) : PureOK Tryz.prog 25 [instV i] (encErr g) := by
  have h := Nat.eq_of_beq_eq_true h
  have k := encodeOK i
  rcases encV_cases i with ⟨a, b⟩ | ⟨a, b⟩ | ⟨a, b⟩ | ⟨a, b⟩
  · omega
  all_goals (rw [b] at k; rw [← h, a]; exact k)
def partsN (i : Inst) : Bool := (partsL i).isEmpty
def partsC (i : Inst) : List Value := (partsL i).map sv
def partsM (i : Inst) : Nat := (partsL i).length
theorem partsCall1 {i : Inst} (h : (fitsB i && partsN i) = true) (lo : Nat) (H : Heap) : CallOK Tryz.prog lo 27 [instV i] H (.slice none 0 0) H := by
  rw [Bool.and_eq_true] at h
  have := (partsOK (fitsB_fits h.1)).call (gh_plains rfl) lo H
  unfold partsV at this
  rwa [show (partsL i).isEmpty = true from h.2, cond_true] at this
theorem partsCall2 {i : Inst} (h : (fitsB i && !partsN i) = true) (lo : Nat) (H : Heap) : CallOK Tryz.prog lo 27 [instV i] H (gs 1 (partsC i) (partsM i)) H := by
  rw [Bool.and_eq_true] at h
  have := (partsOK (fitsB_fits h.1)).call (gh_plains rfl) lo H
  unfold partsV at this
  rwa [show (partsL i).isEmpty = false by simpa [partsN] using h.2, cond_false] at this
theorem joinCall {xs : List Value} {n : Nat} {p : ByteArray} (h : joinG xs n p = true) (lo : Nat) (H : Heap) : CallOK Tryz.prog lo 28 [gs 1 xs n, .string p] H (.string (joinS xs p)) H := by
  obtain ⟨h1, h2⟩ := joinOK' h
  exact h1.call (fun a ha => by
    simp only [List.mem_cons, List.not_mem_nil, or_false] at ha
    rcases ha with rfl | rfl
    · exact Gh.gs h2
    · exact Gh.plain rfl) lo H
noncomputable def printΦ (E : Inst → Nat) (W : Inst → Int) (Nm : Int → ByteArray) (Pn : Inst → Bool) (Pc : Inst → List Value) (Pm : Inst → Nat) (Jg : List Value → Nat → ByteArray → Bool) (Js : List Value → ByteArray → ByteArray) : Oracle := fun lo f args H => match f with
  | 25 => match args with
    | [.agg ⟨[.int .i64 op, .int .i64 rd, .int .i64 rs1, .int .i64 rs2, .int .i64 csr, .int .u32 imm, .bool aq, .bool rl]⟩] => some [(Nat.beq (E ⟨op, rd, rs1, rs2, csr, imm, aq, rl⟩) 0, encOk (W ⟨op, rd, rs1, rs2, csr, imm, aq, rl⟩), H), (Nat.beq (E ⟨op, rd, rs1, rs2, csr, imm, aq, rl⟩) 1, encErr 1, H), (Nat.beq (E ⟨op, rd, rs1, rs2, csr, imm, aq, rl⟩) 2, encErr 2, H), (Nat.beq (E ⟨op, rd, rs1, rs2, csr, imm, aq, rl⟩) 3, encErr 3, H)]
    | _ => none
  | 26 => match args with
    | [.int .i64 n] => some [(isOp n, .string (Nm n), H)]
    | _ => none
  | 27 => match args with
    | [.agg ⟨[.int .i64 op, .int .i64 rd, .int .i64 rs1, .int .i64 rs2, .int .i64 csr, .int .u32 imm, .bool aq, .bool rl]⟩] => some [(fitsB ⟨op, rd, rs1, rs2, csr, imm, aq, rl⟩ && Pn ⟨op, rd, rs1, rs2, csr, imm, aq, rl⟩, .slice none 0 0, H), (fitsB ⟨op, rd, rs1, rs2, csr, imm, aq, rl⟩ && !Pn ⟨op, rd, rs1, rs2, csr, imm, aq, rl⟩, gs 1 (Pc ⟨op, rd, rs1, rs2, csr, imm, aq, rl⟩) (Pm ⟨op, rd, rs1, rs2, csr, imm, aq, rl⟩), H)]
    | _ => none
  | 28 => match args with
    | [.func (.yield 1) ⟨xs⟩ ⟨[.int .i64 (.ofNat n)]⟩, .string p] => some [(Jg xs n p, .string (Js xs p), H)]
    | _ => none
  | _ => none
theorem printΦ_ok  : CtxOK Tryz.prog (ctx (printΦ encE encW (fun op => bs (nameF op)) partsN partsC partsM joinG joinS)) := ctxOK fun lo f args H l v H' h hm => by
  unfold printΦ at h
  split at h
  · split at h
    · cases h
      simp only [List.mem_cons, List.not_mem_nil, or_false, Prod.mk.injEq] at hm
      rcases hm with ⟨hc, rfl, rfl⟩ | ⟨hc, rfl, rfl⟩ | ⟨hc, rfl, rfl⟩ | ⟨hc, rfl, rfl⟩
      · exact ⟨(encOk0 hc.symm).call (gh_plains rfl) lo H', rfl⟩
      · exact ⟨(encg hc.symm (by decide)).call (gh_plains rfl) lo H', rfl⟩
      · exact ⟨(encg hc.symm (by decide)).call (gh_plains rfl) lo H', rfl⟩
      · exact ⟨(encg hc.symm (by decide)).call (gh_plains rfl) lo H', rfl⟩
    · cases h
  · split at h
    · cases h
      simp only [List.mem_cons, List.not_mem_nil, or_false, Prod.mk.injEq] at hm
      obtain ⟨hc, rfl, rfl⟩ := hm
      exact ⟨(nameOK hc.symm).call (gh_plains rfl) lo H', rfl⟩
    · cases h
  · split at h
    · cases h
      simp only [List.mem_cons, List.not_mem_nil, or_false, Prod.mk.injEq] at hm
      rcases hm with ⟨hc, rfl, rfl⟩ | ⟨hc, rfl, rfl⟩
      · exact ⟨partsCall1 hc.symm lo H', rfl⟩
      · exact ⟨partsCall2 hc.symm lo H', rfl⟩
    · cases h
  · split at h
    · cases h
      simp only [List.mem_cons, List.not_mem_nil, or_false, Prod.mk.injEq] at hm
      obtain ⟨hc, rfl, rfl⟩ := hm
      exact ⟨joinCall hc.symm lo H', rfl⟩
    · cases h
  · cases h
def printT (E : Inst → Nat) (W : Inst → Int) (Nm : Int → ByteArray) (Pn : Inst → Bool) (Pc : Inst → List Value) (Pm : Inst → Nat) (Jg : List Value → Nat → ByteArray → Bool) (Js : List Value → ByteArray → ByteArray) (op rd rs1 rs2 csr imm : Int) (aq rl : Bool) : Option Value := bif Nat.beq (E ⟨op, rd, rs1, rs2, csr, imm, aq, rl⟩) 0 then (bif isOp op then (bif aq then (bif okLen (Nm op) caq then (bif rl then (bif okLen ((Nm op) ++ caq) crl then (bif fitsB ⟨op, rd, rs1, rs2, csr, imm, aq, rl⟩ && Pn ⟨op, rd, rs1, rs2, csr, imm, aq, rl⟩ then some (.tuple #[.string (((Nm op) ++ caq) ++ crl), .nilIface]) else bif fitsB ⟨op, rd, rs1, rs2, csr, imm, aq, rl⟩ && !Pn ⟨op, rd, rs1, rs2, csr, imm, aq, rl⟩ then (bif decide (Int.ofNat (Pm ⟨op, rd, rs1, rs2, csr, imm, aq, rl⟩) > 0) then (bif Jg (Pc ⟨op, rd, rs1, rs2, csr, imm, aq, rl⟩) (Pm ⟨op, rd, rs1, rs2, csr, imm, aq, rl⟩) ccs then (bif okLen csp (Js (Pc ⟨op, rd, rs1, rs2, csr, imm, aq, rl⟩) ccs) then (bif okLen (((Nm op) ++ caq) ++ crl) (csp ++ Js (Pc ⟨op, rd, rs1, rs2, csr, imm, aq, rl⟩) ccs) then some (.tuple #[.string (((Nm op) ++ caq) ++ crl ++ (csp ++ Js (Pc ⟨op, rd, rs1, rs2, csr, imm, aq, rl⟩) ccs)), .nilIface]) else none) else none) else none) else some (.tuple #[.string (((Nm op) ++ caq) ++ crl), .nilIface])) else none) else none) else (bif fitsB ⟨op, rd, rs1, rs2, csr, imm, aq, rl⟩ && Pn ⟨op, rd, rs1, rs2, csr, imm, aq, rl⟩ then some (.tuple #[.string ((Nm op) ++ caq), .nilIface]) else bif fitsB ⟨op, rd, rs1, rs2, csr, imm, aq, rl⟩ && !Pn ⟨op, rd, rs1, rs2, csr, imm, aq, rl⟩ then (bif decide (Int.ofNat (Pm ⟨op, rd, rs1, rs2, csr, imm, aq, rl⟩) > 0) then (bif Jg (Pc ⟨op, rd, rs1, rs2, csr, imm, aq, rl⟩) (Pm ⟨op, rd, rs1, rs2, csr, imm, aq, rl⟩) ccs then (bif okLen csp (Js (Pc ⟨op, rd, rs1, rs2, csr, imm, aq, rl⟩) ccs) then (bif okLen ((Nm op) ++ caq) (csp ++ Js (Pc ⟨op, rd, rs1, rs2, csr, imm, aq, rl⟩) ccs) then some (.tuple #[.string ((Nm op) ++ caq ++ (csp ++ Js (Pc ⟨op, rd, rs1, rs2, csr, imm, aq, rl⟩) ccs)), .nilIface]) else none) else none) else none) else some (.tuple #[.string ((Nm op) ++ caq), .nilIface])) else none)) else none) else (bif rl then (bif okLen (Nm op) crl then (bif fitsB ⟨op, rd, rs1, rs2, csr, imm, aq, rl⟩ && Pn ⟨op, rd, rs1, rs2, csr, imm, aq, rl⟩ then some (.tuple #[.string ((Nm op) ++ crl), .nilIface]) else bif fitsB ⟨op, rd, rs1, rs2, csr, imm, aq, rl⟩ && !Pn ⟨op, rd, rs1, rs2, csr, imm, aq, rl⟩ then (bif decide (Int.ofNat (Pm ⟨op, rd, rs1, rs2, csr, imm, aq, rl⟩) > 0) then (bif Jg (Pc ⟨op, rd, rs1, rs2, csr, imm, aq, rl⟩) (Pm ⟨op, rd, rs1, rs2, csr, imm, aq, rl⟩) ccs then (bif okLen csp (Js (Pc ⟨op, rd, rs1, rs2, csr, imm, aq, rl⟩) ccs) then (bif okLen ((Nm op) ++ crl) (csp ++ Js (Pc ⟨op, rd, rs1, rs2, csr, imm, aq, rl⟩) ccs) then some (.tuple #[.string ((Nm op) ++ crl ++ (csp ++ Js (Pc ⟨op, rd, rs1, rs2, csr, imm, aq, rl⟩) ccs)), .nilIface]) else none) else none) else none) else some (.tuple #[.string ((Nm op) ++ crl), .nilIface])) else none) else none) else (bif fitsB ⟨op, rd, rs1, rs2, csr, imm, aq, rl⟩ && Pn ⟨op, rd, rs1, rs2, csr, imm, aq, rl⟩ then some (.tuple #[.string (Nm op), .nilIface]) else bif fitsB ⟨op, rd, rs1, rs2, csr, imm, aq, rl⟩ && !Pn ⟨op, rd, rs1, rs2, csr, imm, aq, rl⟩ then (bif decide (Int.ofNat (Pm ⟨op, rd, rs1, rs2, csr, imm, aq, rl⟩) > 0) then (bif Jg (Pc ⟨op, rd, rs1, rs2, csr, imm, aq, rl⟩) (Pm ⟨op, rd, rs1, rs2, csr, imm, aq, rl⟩) ccs then (bif okLen csp (Js (Pc ⟨op, rd, rs1, rs2, csr, imm, aq, rl⟩) ccs) then (bif okLen (Nm op) (csp ++ Js (Pc ⟨op, rd, rs1, rs2, csr, imm, aq, rl⟩) ccs) then some (.tuple #[.string (Nm op ++ (csp ++ Js (Pc ⟨op, rd, rs1, rs2, csr, imm, aq, rl⟩) ccs)), .nilIface]) else none) else none) else none) else some (.tuple #[.string (Nm op), .nilIface])) else none))) else none) else bif Nat.beq (E ⟨op, rd, rs1, rs2, csr, imm, aq, rl⟩) 1 then some (.tuple #[sv [], errV 1]) else bif Nat.beq (E ⟨op, rd, rs1, rs2, csr, imm, aq, rl⟩) 2 then some (.tuple #[sv [], errV 2]) else bif Nat.beq (E ⟨op, rd, rs1, rs2, csr, imm, aq, rl⟩) 3 then some (.tuple #[sv [], errV 3]) else none
theorem print_run (E : Inst → Nat) (W : Inst → Int) (Nm : Int → ByteArray) (Pn : Inst → Bool) (Pc : Inst → List Value) (Pm : Inst → Nat) (Jg : List Value → Nat → ByteArray → Bool) (Js : List Value → ByteArray → ByteArray) (op rd rs1 rs2 csr imm : Int) (aq rl : Bool) : callK (ctx (printΦ E W Nm Pn Pc Pm Jg Js)) 20 0 9 [instV ⟨op, rd, rs1, rs2, csr, imm, aq, rl⟩] [] (fun v _ => some v) = printT E W Nm Pn Pc Pm Jg Js op rd rs1 rs2 csr imm aq rl := by kernel_rfl
end Go.Proofs.YtgkicojmgokinaaGreatDoor.Ab
namespace Go.Proofs.YtgkicojmgokinaaGreatDoor.Ab
open Go Go.RowKit
set_option linter.unusedVariables false
set_option linter.unusedSimpArgs false
set_option maxRecDepth 100000
structure Good (i : Inst) : Prop where
  fits : Fits i
  csr : 0 ≤ i.csr ∧ i.csr ≤ 4095
  rd0 : (usesF (formF i.op)).1 = false → i.rd = 0
  rs10 : (usesF (formF i.op)).2.1 = false → i.rs1 = 0
  rs20 : (usesF (formF i.op)).2.2.1 = false → i.rs2 = 0
  imm0 : (usesF (formF i.op)).2.2.2 = false → i.imm = 0
  lay : (usesF (formF i.op)).2.2.2 = true → (rlayF layV (formF i.op) i.imm).2 = true
  csr0 : isC (formF i.op) = false → i.csr = 0
  aq0 : isA (formF i.op) = false → i.aq = false ∧ i.rl = false
def Okv (t : Option Value) : Prop := ∃ v, t = some v ∧ errN v = 0
theorem Okv.bif_err {c : Bool} {g : Nat} {t : Option Value} (h : Okv (bif c then some (encErr g) else t)) (hg : g ∈ [1, 2, 3]) : c = false ∧ Okv t := by
  cases c with
  | false => exact ⟨rfl, h⟩
  | true =>
    obtain ⟨v, hv, he⟩ := h
    simp only [cond_true, Option.some.injEq] at hv
    subst hv
    simp only [List.mem_cons, List.not_mem_nil, or_false] at hg
    rcases hg with rfl | rfl | rfl <;> exact absurd he (by decide)
theorem Okv.rng {n : Int} {t : Option Value} (h : Okv (rng n t)) : isReg n = true ∧ Okv t := by
  unfold Ab.rng at h
  obtain ⟨h1, h⟩ := h.bif_err (by decide)
  obtain ⟨h2, h⟩ := h.bif_err (by decide)
  refine ⟨?_, h⟩
  simp only [decide_eq_false_iff_not] at h1 h2
  simp only [isReg, Bool.and_eq_true, decide_eq_true_eq]
  omega
theorem Okv.ck {f c : Bool} {t : Option Value} (h : Okv (ck f c t)) : (f = true → c = false) ∧ Okv t := by
  unfold Ab.ck at h
  cases f with
  | false => exact ⟨fun h => (by cases h), h⟩
  | true =>
    have h' : Okv (bif c then some (encErr 3) else t) := h
    obtain ⟨h1, h2⟩ := h'.bif_err (by decide)
    exact ⟨fun _ => h1, h2⟩
theorem encT_ok {J : Int → Int → Int → Int → Int → Int → Int} {fm : Nat} {a b c d : Bool} {opc f3 f7 rd rs1 rs2 csr imm : Int} {aq rl : Bool} {w : Int} (h : Okv (encT J fm a b c d opc f3 f7 rd rs1 rs2 csr imm aq rl w)) :
    (a = false → rd = 0) ∧ (b = false → rs1 = 0) ∧ (c = false → rs2 = 0) ∧ (d = false → imm = 0) ∧ (isC fm = false → csr = 0) ∧ (isA fm = false → aq = false ∧ rl = false) := by
  unfold encT at h
  obtain ⟨h1, h⟩ := h.ck
  obtain ⟨h2, h⟩ := h.ck
  obtain ⟨h3, h⟩ := h.ck
  obtain ⟨h4, h⟩ := h.ck
  obtain ⟨h5, h⟩ := h.ck
  obtain ⟨h6, h⟩ := h.ck
  obtain ⟨h7, h⟩ := h.ck
  simp only [Bool.not_eq_true', bne_eq_false_iff_eq] at h1 h2 h3 h4 h5 h6 h7
  exact ⟨h1, h2, h3, h4, h5, fun e => ⟨h6 e, h7 e⟩⟩
theorem enc_good {i : Inst} (h : encE i = 0) : Good i := by
  unfold encE encV at h
  cases ho : isOp i.op with
  | false =>
    rw [ho] at h
    exact absurd (show errN (encErr 1) = 0 from h) (by decide)
  | true =>
    rw [ho] at h
    simp only [cond_true] at h
    have hk : Okv (encK (rlayF layV) joinV (formF i.op) (usesF (formF i.op)).1 (usesF (formF i.op)).2.1 (usesF (formF i.op)).2.2.1 (usesF (formF i.op)).2.2.2 (opcL.getD (i.op - 1).toNat 0) (f3L.getD (i.op - 1).toNat 0) (f7L.getD (i.op - 1).toNat 0) i.rd i.rs1 i.rs2 i.csr i.imm i.aq i.rl) := by
      obtain ⟨v, hv, _⟩ := encK_tree (rlayF layV) joinV (formF i.op) (usesF (formF i.op)).1 (usesF (formF i.op)).2.1 (usesF (formF i.op)).2.2.1 (usesF (formF i.op)).2.2.2 (opcL.getD (i.op - 1).toNat 0) (f3L.getD (i.op - 1).toNat 0) (f7L.getD (i.op - 1).toNat 0) i.rd i.rs1 i.rs2 i.csr i.imm i.aq i.rl
      rw [hv] at h
      exact ⟨v, hv, h⟩
    clear h
    unfold encK at hk
    obtain ⟨h1, hk⟩ := hk.rng
    obtain ⟨h2, hk⟩ := hk.rng
    obtain ⟨h3, hk⟩ := hk.rng
    obtain ⟨h4, hk⟩ := hk.bif_err (by decide)
    obtain ⟨h5, hk⟩ := hk.bif_err (by decide)
    simp only [decide_eq_false_iff_not] at h4 h5
    cases hi : (usesF (formF i.op)).2.2.2 with
    | false =>
      rw [hi, cond_false] at hk
      obtain ⟨a1, a2, a3, a4, a5, a6⟩ := encT_ok hk
      exact ⟨⟨ho, h1, h2, h3⟩, by omega, a1, a2, a3, fun _ => a4 rfl, fun e => (by rw [hi] at e; cases e), a5, a6⟩
    | true =>
      rw [hi, cond_true] at hk
      cases hl : (rlayF layV (formF i.op) i.imm).2 with
      | false =>
        rw [hl, cond_false] at hk
        obtain ⟨v, hv, he⟩ := hk
        cases hv; exact absurd he (by decide)
      | true =>
        rw [hl, cond_true] at hk
        obtain ⟨a1, a2, a3, a4, a5, a6⟩ := encT_ok hk
        exact ⟨⟨ho, h1, h2, h3⟩, by omega, a1, a2, a3, fun e => (by rw [hi] at e; cases e), fun _ => hl, a5, a6⟩
theorem Fits.b {i : Inst} (h : Fits i) : fitsB i = true := by
  simp only [fitsB, Bool.and_eq_true]; exact ⟨h.op, h.rd, h.rs1, h.rs2⟩
theorem name_len : ∀ k : Nat, k < 69 → (names.getD k []).length ≤ 11 := by decide
theorem nameF_len {op : Int} (h : isOp op = true) : (nameF op).length ≤ 11 := by
  simp only [isOp, Bool.and_eq_true, decide_eq_true_eq] at h
  exact name_len _ (by omega)
theorem dec_len {u : Nat} (h : u < 18446744073709551616) : (Lib.decDigits u).length ≤ 20 := by
  rw [Lib.decDigits_length]
  by_cases h1 : 1 ≤ u
  · have := Lib.numDigits_eq u h1 h; split at this <;> omega
  · have : u = 0 := by omega
    subst this
    rw [Lib.nDigits_small (by decide)]; decide
theorem pl_len (w : Int) : (plL w).length ≤ 20 := by
  refine dec_len ?_
  have := inU64_wrap w
  simp only [inU64, Bool.and_eq_true, decide_eq_true_eq] at this
  omega
theorem parts_len {i : Inst} (h : Fits i) : (∀ x ∈ partsL i, x.length ≤ 50) ∧ (partsL i).length ≤ 3 := by
  have a1 := x_len h.rd
  have a2 := x_len h.rs1
  have a3 := x_len h.rs2
  have a4 := li_len h.rs1
  have a5 := sg_len i.imm
  have a6 := pl_len i.imm
  have a7 := pl_len (i.imm.fdiv 4096)
  have a8 := pl_len (bitV i.imm 4 4)
  have a9 := pl_len (bitV i.imm 0 4)
  have a10 : (48 :: 120 :: hxL (IntKind.u32.wrap i.csr)).length = 5 := rfl
  unfold partsL
  split <;> refine ⟨fun x hx => ?_, by simp⟩ <;> simp only [List.mem_cons, List.not_mem_nil, or_false] at hx
  all_goals first
    | exact absurd hx id
    | (rcases hx with rfl | rfl | rfl <;> first | omega | (simp only [List.length_append]; omega))
    | (rcases hx with rfl | rfl <;> first | omega | (simp only [List.length_append]; omega))
theorem join_len (p : List UInt8) (c : Nat) : ∀ (xs : List (List UInt8)), (∀ x ∈ xs, x.length ≤ c) → (Lib.join xs p).length ≤ xs.length * (c + p.length)
  | [], _ => by simp [Lib.join]
  | [x], h => by
    have := h x (by simp)
    simp [Lib.join, List.intercalate]; omega
  | x :: y :: r, h => by
    have h1 := h x (by simp)
    have ih := join_len p c (y :: r) (fun z hz => h z (by simp [hz]))
    have e : Lib.join (x :: y :: r) p = x ++ p ++ Lib.join (y :: r) p := by simp [Lib.join, List.intercalate]
    rw [e, List.length_append, List.length_append]
    simp only [List.length_cons, Nat.add_mul, Nat.one_mul] at ih ⊢
    omega
def textL (i : Inst) : List UInt8 :=
  nameF i.op ++ (bif i.aq then [46, 97, 113] else []) ++ (bif i.rl then [46, 114, 108] else []) ++ (bif partsN i then [] else 32 :: Lib.join (partsL i) [44, 32])
theorem text_len {i : Inst} (h : Fits i) : (textL i).length ≤ 200 := by
  have a := nameF_len h.op
  obtain ⟨b, c⟩ := parts_len h
  have d := join_len [44, 32] 50 _ b
  have e : (partsL i).length * (50 + [44, 32].length) ≤ 3 * 52 := Nat.mul_le_mul_right _ c
  unfold textL
  cases i.aq <;> cases i.rl <;> cases partsN i <;> simp <;> omega
noncomputable def printV (i : Inst) : Value := bif Nat.beq (encE i) 0 then .tuple #[sv (textL i), .nilIface] else .tuple #[sv [], errV (encE i)]
theorem print_tree (i : Inst) : printT encE encW (fun op => bs (nameF op)) partsN partsC partsM joinG joinS i.op i.rd i.rs1 i.rs2 i.csr i.imm i.aq i.rl = some (printV i) := by
  obtain ⟨op, rd, rs1, rs2, csr, imm, aq, rl⟩ := i
  unfold printT printV
  have hcase := encV_cases ⟨op, rd, rs1, rs2, csr, imm, aq, rl⟩
  generalize (⟨op, rd, rs1, rs2, csr, imm, aq, rl⟩ : Inst) = i at hcase ⊢
  clear op rd rs1 rs2 csr imm aq rl
  cases h0 : Nat.beq (encE i) 0 with
  | false =>
    simp only [cond_false]
    rcases hcase with ⟨a, _⟩ | ⟨a, _⟩ | ⟨a, _⟩ | ⟨a, _⟩
    · rw [a] at h0; cases h0
    all_goals (rw [a]; rfl)
  | true =>
    simp only [cond_true]
    have hg := enc_good (Nat.eq_of_beq_eq_true h0)
    have hf := hg.fits
    have ho := hf.op
    have hn := nameF_len hf.op
    obtain ⟨b, c⟩ := parts_len hf
    have d := join_len [44, 32] 50 _ b
    have e : (partsL i).length * (50 + [44, 32].length) ≤ 3 * 52 := Nat.mul_le_mul_right _ c
    have hmap : (partsC i).map txtOf = partsL i := by unfold partsC; rw [List.map_map]; simp [Function.comp_def, txtOf]
    have hJs : joinS (partsC i) ccs = bs (Lib.join (partsL i) [44, 32]) := by unfold joinS; rw [hmap]; rfl
    rw [ho, cond_true]
    simp only [hf.b, Bool.true_and]
    have hJg : partsN i = false → joinG (partsC i) (partsM i) ccs = true := fun hp => by
      simp only [joinG, Bool.and_eq_true, Bool.not_eq_true', decide_eq_true_eq]
      refine ⟨?_, ?_, ?_, ?_, ?_⟩
      · unfold partsC
        have : ∀ l : List (List UInt8), (l.map sv).all isTxt = true := fun l => by
          induction l with
          | nil => rfl
          | cons x l ih => rw [List.map_cons, List.all_cons, ih]; rfl
        exact this _
      · unfold partsC partsM; rw [List.length_map]; exact Nat.beq_refl _
      · unfold partsC; unfold partsN at hp
        cases hl : partsL i with
        | nil => rw [hl] at hp; cases hp
        | cons x l => rfl
      · rw [hmap]
        show (Lib.join (partsL i) [44, 32]).length ≤ 100000
        omega
      · unfold partsC; rw [List.length_map]; omega
    have hM : partsN i = false → decide (Int.ofNat (partsM i) > 0) = true := fun hp => by
      unfold partsM; unfold partsN at hp
      cases hl : partsL i with
      | nil => rw [hl] at hp; cases hp
      | cons x l => simp
    unfold textL
    generalize i.op = op at hn ho ⊢
    generalize i.aq = aq
    generalize i.rl = rl
    have k1 : okLen (bs (nameF op)) caq = true := okLen_of (b := [46, 97, 113]) (by simp; omega)
    have k2 : okLen (bs (nameF op) ++ caq) crl = true := okLen_of (a := nameF op ++ [46, 97, 113]) (b := [46, 114, 108]) (by simp; omega)
    have k3 : okLen (bs (nameF op)) crl = true := okLen_of (b := [46, 114, 108]) (by simp; omega)
    have k4 : okLen csp (bs (Lib.join (partsL i) [44, 32])) = true := okLen_of (a := [32]) (by simp; omega)
    have k5 : ∀ s : List UInt8, s.length ≤ 40 → okLen (bs s) (csp ++ bs (Lib.join (partsL i) [44, 32])) = true := fun s hs => okLen_of (b := 32 :: Lib.join (partsL i) [44, 32]) (by simp; omega)
    cases hp : partsN i with
    | true =>
      cases aq <;> cases rl <;> simp only [cond_true, cond_false, k1, k2, k3, List.append_nil] <;> rfl
    | false =>
      have g1 := hM hp
      have g2 := hJg hp
      have k6 := k5 (nameF op) (by omega)
      have k7 : okLen (bs (nameF op) ++ caq) (csp ++ bs (Lib.join (partsL i) [44, 32])) = true := k5 (nameF op ++ [46, 97, 113]) (by simp; omega)
      have k8 : okLen (bs (nameF op) ++ crl) (csp ++ bs (Lib.join (partsL i) [44, 32])) = true := k5 (nameF op ++ [46, 114, 108]) (by simp; omega)
      have k9 : okLen (bs (nameF op) ++ caq ++ crl) (csp ++ bs (Lib.join (partsL i) [44, 32])) = true := k5 (nameF op ++ [46, 97, 113] ++ [46, 114, 108]) (by simp; omega)
      cases aq <;> cases rl <;> simp only [cond_true, cond_false, Bool.not_false, g1, g2, hJs, k1, k2, k3, k4, k6, k7, k8, k9, List.append_nil] <;> rfl
theorem printV_gh (i : Inst) : Gh (printV i) := by
  unfold printV
  cases Nat.beq (encE i) 0 with
  | true => exact Gh.plain rfl
  | false => exact Gh.tuple (fun x hx => by
      simp only [List.mem_cons, List.not_mem_nil, or_false] at hx
      rcases hx with rfl | rfl
      · exact Gh.plain rfl
      · exact gh_err _)
theorem printOK (i : Inst) : PureOK Tryz.prog 9 [instV i] (printV i) :=
  PureOK.of_run printΦ_ok ((print_run encE encW (fun op => bs (nameF op)) partsN partsC partsM joinG joinS i.op i.rd i.rs1 i.rs2 i.csr i.imm i.aq i.rl).trans (print_tree i)) (printV_gh i)
end Go.Proofs.YtgkicojmgokinaaGreatDoor.Ab
