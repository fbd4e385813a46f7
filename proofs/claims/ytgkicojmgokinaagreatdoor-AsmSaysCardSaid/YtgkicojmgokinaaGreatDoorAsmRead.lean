/- Trimmed: AsmRead -/
import Derived.Test.YtgkicojmgokinaaGreatDoorAsmPrinted
namespace Go.Proofs.YtgkicojmgokinaaGreatDoor.Ab
open Go Go.RowKit
set_option linter.unusedVariables false
set_option linter.unusedSimpArgs false
set_option maxRecDepth 100000
def ln (s : ByteArray) : Bool := decide (s.size ≤ 100000)
def bytes (s : ByteArray) : List UInt8 := s.data.toList
theorem ln_lt {s : ByteArray} (h : ln s = true) : (bytes s).length < 4294967281 := by
  simp only [ln, decide_eq_true_eq] at h
  have : (bytes s).length = s.size := rfl
  omega
def prefS (s p : ByteArray) : ByteArray := bs (Lib.trimPrefix (bytes s) (bytes p))
def prefB (s p : ByteArray) : Bool := Lib.hasPrefix (bytes s) (bytes p)
def sufS (s p : ByteArray) : ByteArray := bs (Lib.trimSuffix (bytes s) (bytes p))
def sufB (s p : ByteArray) : Bool := Lib.hasSuffix (bytes s) (bytes p)
def cut1 (s p : ByteArray) : ByteArray := bs (Lib.cut (bytes s) (bytes p)).1
def cut2 (s p : ByteArray) : ByteArray := bs (Lib.cut (bytes s) (bytes p)).2.1
def cut3 (s p : ByteArray) : Bool := (Lib.cut (bytes s) (bytes p)).2.2
def atoN (s : ByteArray) : Int := (atoiR (bytes s)).1
def atoB (s : ByteArray) : Bool := (atoiR (bytes s)).2
def pinN (s : ByteArray) : Int := (pintR (bytes s)).1
def pinB (s : ByteArray) : Bool := (pintR (bytes s)).2
def hexN (s : ByteArray) : Int := (hexR (bytes s)).1
def hexB (s : ByteArray) : Bool := (hexR (bytes s)).2
theorem errs {f : FuncId} {args : List Value} {k : IntKind} {z : Int} {ok : Bool} (h : PureOK Tryz.prog f args (.tuple #[.int k z, errOf ok])) (hg : ∀ a ∈ args, Gh a) (lo : Nat) (H : Heap) :
    (ok = true → CallOK Tryz.prog lo f args H (.tuple #[.int k z, .nilIface]) H) ∧ (ok = false → CallOK Tryz.prog lo f args H (.tuple #[.int k z, numErr]) H) :=
  ⟨fun e => by subst e; exact h.call hg lo H, fun e => by subst e; exact h.call hg lo H⟩
theorem ato1 {s : ByteArray} (h : (ln s && atoB s) = true) (lo : Nat) (H : Heap) : CallOK Tryz.prog lo 103 [.string s] H (.tuple #[.int .i64 (atoN s), .nilIface]) H := by
  rw [Bool.and_eq_true] at h; exact (errs (atoiOK (bytes s) (ln_lt h.1)) (gh_plains rfl) lo H).1 h.2
theorem ato2 {s : ByteArray} (h : (ln s && !atoB s) = true) (lo : Nat) (H : Heap) : CallOK Tryz.prog lo 103 [.string s] H (.tuple #[.int .i64 (atoN s), numErr]) H := by
  rw [Bool.and_eq_true, Bool.not_eq_true'] at h; exact (errs (atoiOK (bytes s) (ln_lt h.1)) (gh_plains rfl) lo H).2 h.2
theorem pin1 {s : ByteArray} (h : (ln s && pinB s) = true) (lo : Nat) (H : Heap) : CallOK Tryz.prog lo 104 [.string s, .int .i64 10, .int .i64 64] H (.tuple #[.int .i64 (pinN s), .nilIface]) H := by
  rw [Bool.and_eq_true] at h; exact (errs (pintOK (bytes s) (ln_lt h.1)) (gh_plains rfl) lo H).1 h.2
theorem pin2 {s : ByteArray} (h : (ln s && !pinB s) = true) (lo : Nat) (H : Heap) : CallOK Tryz.prog lo 104 [.string s, .int .i64 10, .int .i64 64] H (.tuple #[.int .i64 (pinN s), numErr]) H := by
  rw [Bool.and_eq_true, Bool.not_eq_true'] at h; exact (errs (pintOK (bytes s) (ln_lt h.1)) (gh_plains rfl) lo H).2 h.2
theorem hex1 {s : ByteArray} (h : (ln s && hexB s) = true) (lo : Nat) (H : Heap) : CallOK Tryz.prog lo 105 [.string s, .int .i64 16, .int .i64 12] H (.tuple #[.int .u64 (hexN s), .nilIface]) H := by
  rw [Bool.and_eq_true] at h; exact (errs (hexOK (bytes s) (ln_lt h.1)) (gh_plains rfl) lo H).1 h.2
theorem hex2 {s : ByteArray} (h : (ln s && !hexB s) = true) (lo : Nat) (H : Heap) : CallOK Tryz.prog lo 105 [.string s, .int .i64 16, .int .i64 12] H (.tuple #[.int .u64 (hexN s), numErr]) H := by
  rw [Bool.and_eq_true, Bool.not_eq_true'] at h; exact (errs (hexOK (bytes s) (ln_lt h.1)) (gh_plains rfl) lo H).2 h.2
theorem preCall (s p : ByteArray) (lo : Nat) (H : Heap) : CallOK Tryz.prog lo 102 [.string s, .string p] H (.tuple #[.string (prefS s p), .bool (prefB s p)]) H := (cutPrefixOK (bytes s) (bytes p)).call (gh_plains rfl) lo H
theorem sufCall {s p : ByteArray} (h : ln s = true) (lo : Nat) (H : Heap) : CallOK Tryz.prog lo 39 [.string s, .string p] H (.tuple #[.string (sufS s p), .bool (sufB s p)]) H := (cutSuffixOK (bytes s) (bytes p) (ln_lt h)).call (gh_plains rfl) lo H
theorem cutCall {s p : ByteArray} (h : ln s = true) (lo : Nat) (H : Heap) : CallOK Tryz.prog lo 37 [.string s, .string p] H (.tuple #[.string (cut1 s p), .string (cut2 s p), .bool (cut3 s p)]) H := (cutOK (bytes s) (bytes p) (ln_lt h)).call (gh_plains rfl) lo H
noncomputable def numsΦ (Cp : ByteArray → ByteArray → ByteArray) (Ci : ByteArray → ByteArray → Bool) (An : ByteArray → Int) (Ao : ByteArray → Bool) (Pn : ByteArray → Int) (Po : ByteArray → Bool) (Hn : ByteArray → Int) (Ho : ByteArray → Bool) : Oracle := fun lo f args H => match f with
  | 102 => match args with
    | [.string s, .string p] => some [(true, .tuple #[.string (Cp s p), .bool (Ci s p)], H)]
    | _ => none
  | 103 => match args with
    | [.string s] => some [(ln s && Ao s, .tuple #[.int .i64 (An s), .nilIface], H), (ln s && !Ao s, .tuple #[.int .i64 (An s), numErr], H)]
    | _ => none
  | 104 => match args with
    | [.string s, .int .i64 10, .int .i64 64] => some [(ln s && Po s, .tuple #[.int .i64 (Pn s), .nilIface], H), (ln s && !Po s, .tuple #[.int .i64 (Pn s), numErr], H)]
    | _ => none
  | 105 => match args with
    | [.string s, .int .i64 16, .int .i64 12] => some [(ln s && Ho s, .tuple #[.int .u64 (Hn s), .nilIface], H), (ln s && !Ho s, .tuple #[.int .u64 (Hn s), numErr], H)]
    | _ => none
  | _ => none
theorem numsΦ_ok  : CtxOK Tryz.prog (ctx (numsΦ prefS prefB atoN atoB pinN pinB hexN hexB)) := ctxOK fun lo f args H l v H' h hm => by
  unfold numsΦ at h
  split at h
  · split at h
    · cases h
      simp only [List.mem_cons, List.not_mem_nil, or_false, Prod.mk.injEq] at hm
      obtain ⟨hc, rfl, rfl⟩ := hm
      exact ⟨preCall _ _ lo H', rfl⟩
    · cases h
  · split at h
    · cases h
      simp only [List.mem_cons, List.not_mem_nil, or_false, Prod.mk.injEq] at hm
      rcases hm with ⟨hc, rfl, rfl⟩ | ⟨hc, rfl, rfl⟩
      · exact ⟨ato1 hc.symm lo H', rfl⟩
      · exact ⟨ato2 hc.symm lo H', rfl⟩
    · cases h
  · split at h
    · cases h
      simp only [List.mem_cons, List.not_mem_nil, or_false, Prod.mk.injEq] at hm
      rcases hm with ⟨hc, rfl, rfl⟩ | ⟨hc, rfl, rfl⟩
      · exact ⟨pin1 hc.symm lo H', rfl⟩
      · exact ⟨pin2 hc.symm lo H', rfl⟩
    · cases h
  · split at h
    · cases h
      simp only [List.mem_cons, List.not_mem_nil, or_false, Prod.mk.injEq] at hm
      rcases hm with ⟨hc, rfl, rfl⟩ | ⟨hc, rfl, rfl⟩
      · exact ⟨hex1 hc.symm lo H', rfl⟩
      · exact ⟨hex2 hc.symm lo H', rfl⟩
    · cases h
  · cases h
def rdH (A I : Option Blk) (l : Value) (b : Bool) : Heap := [A, I, some ⟨[l, .bool b], 80, none⟩]
abbrev rp : Value := .pointer (some ⟨2, 0, none⟩)
abbrev vh (v : Value) (H : Heap) : Option (Value × Heap) := some (v, H)
theorem call_vh {C : Ctx} (hC : CtxOK Tryz.prog C) {m lo f : Nat} {args : List Value} {H : Heap} {v : Value} {H' : Heap} (h : callK C m lo f args H vh = some (v, H')) : CallOK Tryz.prog lo f args H v H' := by
  obtain ⟨v', H1, h1, h2, _⟩ := callK_sound hC m _ _ _ _ _ _ h
  cases h1; exact h2
theorem reg_run (Cp : ByteArray → ByteArray → ByteArray) (Ci : ByteArray → ByteArray → Bool) (An : ByteArray → Int) (Ao : ByteArray → Bool) (Pn : ByteArray → Int) (Po : ByteArray → Bool) (Hn : ByteArray → Int) (Ho : ByteArray → Bool) (A I : Option Blk) (l : Value) (b : Bool) (s : ByteArray) : callK (ctx (numsΦ Cp Ci An Ao Pn Po Hn Ho)) 20 0 72 [rp, .string s] (rdH A I l b) vh = bif Ci s cx then (bif ln (Cp s cx) && Ao (Cp s cx) then some (.int .i64 (An (Cp s cx)), rdH A I l b) else bif ln (Cp s cx) && !Ao (Cp s cx) then some (.int .i64 (An (Cp s cx)), rdH A I l true) else none) else (bif ln (Cp s cx) && Ao (Cp s cx) then some (.int .i64 (An (Cp s cx)), rdH A I l true) else bif ln (Cp s cx) && !Ao (Cp s cx) then some (.int .i64 (An (Cp s cx)), rdH A I l true) else none) := by kernel_rfl
theorem csr_run (Cp : ByteArray → ByteArray → ByteArray) (Ci : ByteArray → ByteArray → Bool) (An : ByteArray → Int) (Ao : ByteArray → Bool) (Pn : ByteArray → Int) (Po : ByteArray → Bool) (Hn : ByteArray → Int) (Ho : ByteArray → Bool) (A I : Option Blk) (l : Value) (b : Bool) (s : ByteArray) : callK (ctx (numsΦ Cp Ci An Ao Pn Po Hn Ho)) 20 0 75 [rp, .string s] (rdH A I l b) vh = bif Ci s cox then (bif ln (Cp s cox) && Ho (Cp s cox) then some (.int .i64 (IntKind.i64.wrap (Hn (Cp s cox))), rdH A I l b) else bif ln (Cp s cox) && !Ho (Cp s cox) then some (.int .i64 (IntKind.i64.wrap (Hn (Cp s cox))), rdH A I l true) else none) else (bif ln (Cp s cox) && Ho (Cp s cox) then some (.int .i64 (IntKind.i64.wrap (Hn (Cp s cox))), rdH A I l true) else bif ln (Cp s cox) && !Ho (Cp s cox) then some (.int .i64 (IntKind.i64.wrap (Hn (Cp s cox))), rdH A I l true) else none) := by kernel_rfl
theorem number_run (Cp : ByteArray → ByteArray → ByteArray) (Ci : ByteArray → ByteArray → Bool) (An : ByteArray → Int) (Ao : ByteArray → Bool) (Pn : ByteArray → Int) (Po : ByteArray → Bool) (Hn : ByteArray → Int) (Ho : ByteArray → Bool) (A I : Option Blk) (l : Value) (b : Bool) (s : ByteArray) : callK (ctx (numsΦ Cp Ci An Ao Pn Po Hn Ho)) 20 0 74 [rp, .string s] (rdH A I l b) vh = bif ln s && Po s then (bif decide (Pn s < -2147483648) then some (.int .u32 (IntKind.u32.wrap (Pn s)), rdH A I l true) else bif decide (Pn s ≥ 4294967296) then some (.int .u32 (IntKind.u32.wrap (Pn s)), rdH A I l true) else some (.int .u32 (IntKind.u32.wrap (Pn s)), rdH A I l b)) else bif ln s && !Po s then some (.int .u32 (IntKind.u32.wrap (Pn s)), rdH A I l true) else none := by kernel_rfl
def regN (s : ByteArray) : Int := atoN (prefS s cx)
def regB (s : ByteArray) : Bool := !(prefB s cx && atoB (prefS s cx))
def csrN (s : ByteArray) : Int := IntKind.i64.wrap (hexN (prefS s cox))
def csrB (s : ByteArray) : Bool := !(prefB s cox && hexB (prefS s cox))
def numN (s : ByteArray) : Int := IntKind.u32.wrap (pinN s)
def numB (s : ByteArray) : Bool := !(pinB s && (!decide (pinN s < -2147483648) && !decide (pinN s ≥ 4294967296)))
theorem ln_pre {s p : ByteArray} (h : ln s = true) : ln (prefS s p) = true := by
  simp only [ln, decide_eq_true_eq] at h ⊢
  have e : (prefS s p).size = (Lib.trimPrefix (bytes s) (bytes p)).length := rfl
  have e2 : (bytes s).length = s.size := rfl
  rw [e]; unfold Lib.trimPrefix
  split
  · rw [List.length_drop]; omega
  · omega
theorem regCall {s : ByteArray} (h : ln s = true) (A I : Option Blk) (l : Value) (b : Bool) : CallOK Tryz.prog 0 72 [rp, .string s] (rdH A I l b) (.int .i64 (regN s)) (rdH A I l (b || regB s)) := by
  refine call_vh numsΦ_ok ((reg_run prefS prefB atoN atoB pinN pinB hexN hexB A I l b s).trans ?_)
  unfold regB regN
  rw [ln_pre h]
  cases prefB s cx <;> cases atoB (prefS s cx) <;> cases b <;> rfl
theorem csrCall {s : ByteArray} (h : ln s = true) (A I : Option Blk) (l : Value) (b : Bool) : CallOK Tryz.prog 0 75 [rp, .string s] (rdH A I l b) (.int .i64 (csrN s)) (rdH A I l (b || csrB s)) := by
  refine call_vh numsΦ_ok ((csr_run prefS prefB atoN atoB pinN pinB hexN hexB A I l b s).trans ?_)
  unfold csrB csrN
  rw [ln_pre h]
  cases prefB s cox <;> cases hexB (prefS s cox) <;> cases b <;> rfl
theorem numCall {s : ByteArray} (h : ln s = true) (A I : Option Blk) (l : Value) (b : Bool) : CallOK Tryz.prog 0 74 [rp, .string s] (rdH A I l b) (.int .u32 (numN s)) (rdH A I l (b || numB s)) := by
  refine call_vh numsΦ_ok ((number_run prefS prefB atoN atoB pinN pinB hexN hexB A I l b s).trans ?_)
  unfold numB numN
  rw [h]
  cases pinB s <;> cases decide (pinN s < -2147483648) <;> cases decide (pinN s ≥ 4294967296) <;> cases b <;> rfl
theorem lo0 {lo : Nat} {b : Bool} (h : (Nat.beq lo 0 && b) = true) : lo = 0 ∧ b = true := by
  rw [Bool.and_eq_true] at h; exact ⟨Nat.eq_of_beq_eq_true h.1, h.2⟩
theorem regCall0 {lo : Nat} {s : ByteArray} (h : (Nat.beq lo 0 && ln s) = true) (A I : Option Blk) (l : Value) (b : Bool) : CallOK Tryz.prog lo 72 [rp, .string s] [A, I, some ⟨[l, .bool b], 80, none⟩] (.int .i64 (regN s)) [A, I, some ⟨[l, .bool (b || regB s)], 80, none⟩] := by
  obtain ⟨rfl, h⟩ := lo0 h; exact regCall h A I l b
theorem csrCall0 {lo : Nat} {s : ByteArray} (h : (Nat.beq lo 0 && ln s) = true) (A I : Option Blk) (l : Value) (b : Bool) : CallOK Tryz.prog lo 75 [rp, .string s] [A, I, some ⟨[l, .bool b], 80, none⟩] (.int .i64 (csrN s)) [A, I, some ⟨[l, .bool (b || csrB s)], 80, none⟩] := by
  obtain ⟨rfl, h⟩ := lo0 h; exact csrCall h A I l b
theorem numCall0 {lo : Nat} {s : ByteArray} (h : (Nat.beq lo 0 && ln s) = true) (A I : Option Blk) (l : Value) (b : Bool) : CallOK Tryz.prog lo 74 [rp, .string s] [A, I, some ⟨[l, .bool b], 80, none⟩] (.int .u32 (numN s)) [A, I, some ⟨[l, .bool (b || numB s)], 80, none⟩] := by
  obtain ⟨rfl, h⟩ := lo0 h; exact numCall h A I l b
noncomputable def liesΦ (C1 C2 : ByteArray → ByteArray → ByteArray) (C3 : ByteArray → ByteArray → Bool) (S1 : ByteArray → ByteArray → ByteArray) (S2 : ByteArray → ByteArray → Bool) (Rn : ByteArray → Int) (Rb : ByteArray → Bool) : Oracle := fun lo f args H => match f with
  | 37 => match args with
    | [.string s, .string p] => some [(ln s, .tuple #[.string (C1 s p), .string (C2 s p), .bool (C3 s p)], H)]
    | _ => none
  | 39 => match args with
    | [.string s, .string p] => some [(ln s, .tuple #[.string (S1 s p), .bool (S2 s p)], H)]
    | _ => none
  | 72 => match args, H with
    | [.pointer (some ⟨2, 0, none⟩), .string s], [A, I, some ⟨[l, .bool b], 80, none⟩] => some [(Nat.beq lo 0 && ln s, .int .i64 (Rn s), [A, I, some ⟨[l, .bool (b || Rb s)], 80, none⟩])]
    | _, _ => none
  | _ => none
theorem liesΦ_ok : CtxOK Tryz.prog (ctx (liesΦ cut1 cut2 cut3 sufS sufB regN regB)) := ctxOK fun lo f args H l v H' h hm => by
  unfold liesΦ at h
  split at h
  · split at h
    · cases h
      simp only [List.mem_cons, List.not_mem_nil, or_false, Prod.mk.injEq] at hm
      obtain ⟨hc, rfl, rfl⟩ := hm
      exact ⟨cutCall hc.symm lo H', rfl⟩
    · cases h
  · split at h
    · cases h
      simp only [List.mem_cons, List.not_mem_nil, or_false, Prod.mk.injEq] at hm
      obtain ⟨hc, rfl, rfl⟩ := hm
      exact ⟨sufCall hc.symm lo H', rfl⟩
    · cases h
  · split at h
    · cases h
      simp only [List.mem_cons, List.not_mem_nil, or_false, Prod.mk.injEq] at hm
      obtain ⟨hc, rfl, rfl⟩ := hm
      exact ⟨regCall0 hc.symm _ _ _ _, rfl⟩
    · cases h
  · cases h
theorem liesr_run (C1 C2 : ByteArray → ByteArray → ByteArray) (C3 : ByteArray → ByteArray → Bool) (S1 : ByteArray → ByteArray → ByteArray) (S2 : ByteArray → ByteArray → Bool) (Rn : ByteArray → Int) (Rb : ByteArray → Bool) (A I : Option Blk) (l : Value) (b : Bool) (s : ByteArray) : callK (ctx (liesΦ C1 C2 C3 S1 S2 Rn Rb)) 20 0 76 [rp, .string s] (rdH A I l b) vh = bif ln s then (bif C3 s c28 then (bif ln (C2 s c28) then (bif S2 (C2 s c28) c29 then (bif ln (S1 (C2 s c28) c29) then some (.tuple #[.string (C1 s c28), .int .i64 (Rn (S1 (C2 s c28) c29))], rdH A I l (b || Rb (S1 (C2 s c28) c29))) else none) else (bif ln (S1 (C2 s c28) c29) then some (.tuple #[.string (C1 s c28), .int .i64 (Rn (S1 (C2 s c28) c29))], rdH A I l (true || Rb (S1 (C2 s c28) c29))) else none)) else none) else (bif ln (C2 s c28) then (bif S2 (C2 s c28) c29 then (bif ln (S1 (C2 s c28) c29) then some (.tuple #[.string (C1 s c28), .int .i64 (Rn (S1 (C2 s c28) c29))], rdH A I l (true || Rb (S1 (C2 s c28) c29))) else none) else (bif ln (S1 (C2 s c28) c29) then some (.tuple #[.string (C1 s c28), .int .i64 (Rn (S1 (C2 s c28) c29))], rdH A I l (true || Rb (S1 (C2 s c28) c29))) else none)) else none)) else none := by kernel_rfl
def liT (s : ByteArray) : ByteArray := cut1 s c28
def liN (s : ByteArray) : Int := regN (sufS (cut2 s c28) c29)
def liB (s : ByteArray) : Bool := !(cut3 s c28 && sufB (cut2 s c28) c29) || regB (sufS (cut2 s c28) c29)
theorem ln_cut {s p : ByteArray} (h : ln s = true) : ln (cut1 s p) = true ∧ ln (cut2 s p) = true := by
  simp only [ln, decide_eq_true_eq] at h ⊢
  have e1 : (cut1 s p).size = (Lib.cut (bytes s) (bytes p)).1.length := rfl
  have e2 : (cut2 s p).size = (Lib.cut (bytes s) (bytes p)).2.1.length := rfl
  have e3 : (bytes s).length = s.size := rfl
  rw [e1, e2]; unfold Lib.cut
  split
  · simp only [List.length_take, List.length_drop]; omega
  · simp; omega
theorem ln_suf {s p : ByteArray} (h : ln s = true) : ln (sufS s p) = true := by
  simp only [ln, decide_eq_true_eq] at h ⊢
  have e : (sufS s p).size = (Lib.trimSuffix (bytes s) (bytes p)).length := rfl
  have e2 : (bytes s).length = s.size := rfl
  rw [e]; unfold Lib.trimSuffix
  split
  · rw [List.length_take]; omega
  · omega
theorem liesCall {s : ByteArray} (h : ln s = true) (A I : Option Blk) (l : Value) (b : Bool) : CallOK Tryz.prog 0 76 [rp, .string s] (rdH A I l b) (.tuple #[.string (liT s), .int .i64 (liN s)]) (rdH A I l (b || liB s)) := by
  refine call_vh liesΦ_ok ((liesr_run cut1 cut2 cut3 sufS sufB regN regB A I l b s).trans ?_)
  unfold liB liN liT
  have h2 := (ln_cut (p := c28) h).2
  rw [h, h2, ln_suf h2]
  cases cut3 s c28 <;> cases sufB (cut2 s c28) c29 <;> cases regB (sufS (cut2 s c28) c29) <;> cases b <;> rfl
theorem liesCall0 {lo : Nat} {s : ByteArray} (h : (Nat.beq lo 0 && ln s) = true) (A I : Option Blk) (l : Value) (b : Bool) : CallOK Tryz.prog lo 76 [rp, .string s] [A, I, some ⟨[l, .bool b], 80, none⟩] (.tuple #[.string (liT s), .int .i64 (liN s)]) [A, I, some ⟨[l, .bool (b || liB s)], 80, none⟩] := by
  obtain ⟨rfl, h⟩ := lo0 h; exact liesCall h A I l b
theorem next_cons (A I : Option Blk) (r : List Value) (n : Nat) (b : Bool) (s : ByteArray) : callK (ctx noΦ) 20 0 73 [rp] (rdH A I (gs 1 (.string s :: r) (n + 1)) b) vh =
    bif (decide ((0 : Int) < Int.ofNat (n + 1)) && true) then (bif (Nat.ble 1 (n + 1) && (Nat.ble (n + 1) (n + 1) && true)) then some (.string s, rdH A I (gs 1 (r.take (n * 1)) n) b) else none) else none := by kernel_rfl
theorem next_nil (A I : Option Blk) (b : Bool) : callK (ctx noΦ) 20 0 73 [rp] (rdH A I (.slice none 0 0) b) vh = some (.string ⟨⟨[]⟩⟩, rdH A I (.slice none 0 0) true) := by kernel_rfl
theorem next_end (A I : Option Blk) (b : Bool) : callK (ctx noΦ) 20 0 73 [rp] (rdH A I (gs 1 [] 0) b) vh = some (.string ⟨⟨[]⟩⟩, rdH A I (gs 1 [] 0) true) := by kernel_rfl
def lV : Option (List (List UInt8)) → Value
  | none => .slice none 0 0
  | some ls => gs 1 (ls.map sv) ls.length
def nxL : Option (List (List UInt8)) → List UInt8
  | some (x :: _) => x
  | _ => []
def tlL : Option (List (List UInt8)) → Option (List (List UInt8))
  | some (_ :: r) => some r
  | l => l
def emL : Option (List (List UInt8)) → Bool
  | some (_ :: _) => false
  | _ => true
theorem nextCall (A I : Option Blk) (ls : Option (List (List UInt8))) (b : Bool) : CallOK Tryz.prog 0 73 [rp] (rdH A I (lV ls) b) (sv (nxL ls)) (rdH A I (lV (tlL ls)) (b || emL ls)) := by
  match ls with
  | none => 
    have := call_vh noOK (next_nil A I b)
    rwa [show (b || emL none) = true by cases b <;> rfl]
  | some [] =>
    have := call_vh noOK (next_end A I b)
    rwa [show (b || emL (some [])) = true by cases b <;> rfl]
  | some (x :: r) =>
    have h := next_cons A I (r.map sv) r.length b (bs x)
    rw [show (decide ((0 : Int) < Int.ofNat (r.length + 1)) && true) = true by simp, cond_true, show (Nat.ble 1 (r.length + 1) && (Nat.ble (r.length + 1) (r.length + 1) && true)) = true by simp [Nat.ble_eq], cond_true] at h
    rw [List.take_of_length_le (by simp)] at h
    have := call_vh noOK h
    rw [show (b || emL (some (x :: r))) = b by cases b <;> rfl]
    exact this
end Go.Proofs.YtgkicojmgokinaaGreatDoor.Ab
