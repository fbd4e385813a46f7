/- Trimmed: AsmSayPar -/
import Derived.Test.YtgkicojmgokinaaGreatDoorAsmSayText
import Derived.Test.YtgkicojmgokinaaGreatDoorAsmSayBad
import Derived.Test.YtgkicojmgokinaaGreatDoorAsmSayNum2
import Derived.Test.YtgkicojmgokinaaGreatDoorAsmFirst0
namespace Go.Proofs.YtgkicojmgokinaaGreatDoor.Ab
open Go Go.RowKit
set_option linter.unusedVariables false
set_option linter.unusedSimpArgs false
set_option maxRecDepth 100000
def numsA (s : ByteArray) (a : Int) : List Int := (numO (s.data.toList.length - a.toNat + 1) (s.data.toList.drop a.toNat) []).getD []
def numsG (s : ByteArray) (a : Int) : Bool := decide (s.data.toList.length ≤ 100000) && (decide (0 ≤ a) && decide (a.toNat ≤ s.data.toList.length))
theorem numsCall {s : ByteArray} {a : Int} (h : numsG s a = true) (lo : Nat) (H : Heap) : CallOK Tryz.prog lo 44 [.string s, .int .i64 a] H (L1 (numsA s a)) H := by
  simp only [numsG, Bool.and_eq_true, decide_eq_true_eq] at h
  have e : a = Int.ofNat a.toNat := by simp only [Int.ofNat_eq_natCast]; omega
  have k := (numsOK (L := s.data.toList) h.1 (A := a.toNat) h.2.2).call (gh_plains rfl) lo H
  rw [← e] at k
  exact k
def unI : Value → Option Int
  | .int .i64 n => some n
  | _ => none
def unL1 : Value → List Int
  | .func _ ⟨xs⟩ _ => xs.filterMap unI
  | _ => []
theorem unL1_L1 (xs : List Int) : unL1 (L1 xs) = xs := by
  show (xs.map (Value.int .i64)).filterMap unI = xs
  induction xs with
  | nil => rfl
  | cons a r ih => rw [List.map_cons, List.filterMap_cons]; show a :: _ = _; rw [ih]
open Classical in
noncomputable def rdG (op : Int) (l : Value) : Bool := isOp op && decide (l = L1 (unL1 l))
noncomputable def rdIn (op : Int) (l : Value) : Inst := readF op (unL1 l)
theorem rdCall {op : Int} {l : Value} (h : rdG op l = true) (lo : Nat) (H : Heap) : CallOK Tryz.prog lo 43 [.int .i64 op, l] H (instV (rdIn op l)) H := by
  simp only [rdG, Bool.and_eq_true, decide_eq_true_eq] at h
  have k := (readOK h.1 (unL1 l)).call (fun a ha => by
    simp only [List.mem_cons, List.not_mem_nil, or_false] at ha
    rcases ha with rfl | rfl
    · exact gh_int _ _
    · exact Gh.L1 _) lo H
  rw [← h.2] at k
  exact k
def wfB (i : Inst) : Bool := decide (0 ≤ i.imm) && decide (i.imm < 4294967296)
theorem wfB_of {i : Inst} (h : i.wf) : wfB i = true := by
  have h : 0 ≤ i.imm ∧ i.imm < 4294967296 := h
  simp only [wfB, Bool.and_eq_true, decide_eq_true_eq]; exact h
theorem wf_of {i : Inst} (h : wfB i = true) : i.wf := by
  simp only [wfB, Bool.and_eq_true, decide_eq_true_eq] at h
  exact h
open Classical in
noncomputable def enW (i : Inst) : Int := if h : i.wf then rencW i h else 0
noncomputable def enB (i : Inst) : Int := badN (encE i)
theorem enCall {i : Inst} (h : wfB i = true) (lo : Nat) (H : Heap) : CallOK Tryz.prog lo 10 [instV i] H (.tuple ⟨[.int .u32 (enW i), .int .i64 (enB i)]⟩) H := by
  have k := (rencOK i (wf_of h)).call (gh_plains rfl) lo H
  have e : enW i = rencW i (wf_of h) := by unfold enW; rw [dif_pos (wf_of h)]
  rw [e]; exact k
noncomputable def prG (i : Inst) : Bool := wfB i && Nat.beq (encE i) 0
theorem prCall {i : Inst} (h : prG i = true) (lo : Nat) (H : Heap) : CallOK Tryz.prog lo 11 [instV i] H (.string (textS i)) H := by
  simp only [prG, Bool.and_eq_true] at h
  exact (rprintOK (Nat.eq_of_beq_eq_true h.2) (wf_of h.1)).call (gh_plains rfl) lo H
noncomputable def rpaΦ (Ng : ByteArray → Int → Bool) (Nu : ByteArray → Int → List Int) (Rg : Int → Value → Bool) (Ri : Int → Value → Inst) (Eg : Inst → Bool) (Ew Eb : Inst → Int) (Pg : Inst → Bool) (Pt : Inst → ByteArray) : Oracle := fun lo f args H => match f with
  | 42 => match args with
    | [] => some [(true, gs 14 rlit 69, H)]
    | _ => none
  | 44 => match args with
    | [.string s, .int .i64 a] => some [(Ng s a, L1 (Nu s a), H)]
    | _ => none
  | 43 => match args with
    | [.int .i64 op, l] => some [(Rg op l, instV (Ri op l), H)]
    | _ => none
  | 10 => match args with
    | [.agg ⟨[.int .i64 op, .int .i64 rd, .int .i64 rs1, .int .i64 rs2, .int .i64 csr, .int .u32 imm, .bool aq, .bool rl]⟩] => some [(Eg ⟨op, rd, rs1, rs2, csr, imm, aq, rl⟩, .tuple ⟨[.int .u32 (Ew ⟨op, rd, rs1, rs2, csr, imm, aq, rl⟩), .int .i64 (Eb ⟨op, rd, rs1, rs2, csr, imm, aq, rl⟩)]⟩, H)]
    | _ => none
  | 11 => match args with
    | [.agg ⟨[.int .i64 op, .int .i64 rd, .int .i64 rs1, .int .i64 rs2, .int .i64 csr, .int .u32 imm, .bool aq, .bool rl]⟩] => some [(Pg ⟨op, rd, rs1, rs2, csr, imm, aq, rl⟩, .string (Pt ⟨op, rd, rs1, rs2, csr, imm, aq, rl⟩), H)]
    | _ => none
  | _ => none
theorem rpaΦ_ok : CtxOK Tryz.prog (ctx (rpaΦ numsG numsA rdG rdIn wfB enW enB prG textS)) := ctxOK fun lo f args H l v H' h hm => by
  unfold rpaΦ at h
  split at h
  · split at h
    · cases h
      simp only [List.mem_cons, List.not_mem_nil, or_false, Prod.mk.injEq] at hm
      obtain ⟨hc, rfl, rfl⟩ := hm
      exact ⟨rrowsOK.call (fun a h => by cases h) lo H', rfl⟩
    · cases h
  · split at h
    · cases h
      simp only [List.mem_cons, List.not_mem_nil, or_false, Prod.mk.injEq] at hm
      obtain ⟨hc, rfl, rfl⟩ := hm
      exact ⟨numsCall hc.symm lo H', rfl⟩
    · cases h
  · split at h
    · cases h
      simp only [List.mem_cons, List.not_mem_nil, or_false, Prod.mk.injEq] at hm
      obtain ⟨hc, rfl, rfl⟩ := hm
      exact ⟨rdCall hc.symm lo H', rfl⟩
    · cases h
  · split at h
    · cases h
      simp only [List.mem_cons, List.not_mem_nil, or_false, Prod.mk.injEq] at hm
      obtain ⟨hc, rfl, rfl⟩ := hm
      exact ⟨enCall hc.symm lo H', rfl⟩
    · cases h
  · split at h
    · cases h
      simp only [List.mem_cons, List.not_mem_nil, or_false, Prod.mk.injEq] at hm
      obtain ⟨hc, rfl, rfl⟩ := hm
      exact ⟨prCall hc.symm lo H', rfl⟩
    · cases h
  · cases h
noncomputable def paB : Code := loopIn (flat (bodyOf 13))[2]?
noncomputable def paR : Code := loopIn (flat (bodyOf 13))[12]?
noncomputable def paRun (Ng : ByteArray → Int → Bool) (Nu : ByteArray → Int → List Int) (Rg : Int → Value → Bool) (Ri : Int → Value → Inst) (Eg : Inst → Bool) (Ew Eb : Inst → Int) (Pg : Inst → Bool) (Pt : Inst → ByteArray) (l : List Code) (F : Fr) (H : Heap) (see : Exit → Fr → Heap → Res) : Res := runL ((ctx (rpaΦ Ng Nu Rg Ri Eg Ew Eb Pg Pt)).at_ 13) (callK (ctx (rpaΦ Ng Nu Rg Ri Eg Ew Eb Pg Pt)) 20) 20 0 105 13 (keeps 13) l F H see
def condIn' : Option Code → Code
  | some (.cond _ a _) => a
  | _ => .skip
noncomputable def paX : Code := blkOf (flat paR)[2]?
noncomputable def paY : Code := condIn' (flat paX)[1]?
noncomputable def ops16 : Array Oper := opsIn (flat paY)[0]?
def T16 : OT := .pre [0, 1, 2, 3, 4, 5, 6] (.two 7 9 (.two 8 9 (.seq 9 (.seq 10 .done)) (.seq 8 (.seq 10 .done))) (.seq 7 (.seq 8 (.seq 10 .done))))
theorem ord16 : ordOK2 ops16 T16 = true := by kernel_rfl
theorem fn13 : sigOf 13 = some (105, [.cell 2 24, .tmp 3]) := by kernel_rfl
noncomputable def P13 (k l : Nat) : List Code := ((flat (bodyOf 13)).drop k).take l
theorem pa_flat : flat (bodyOf 13) = P13 0 2 ++ ([.block 0 (.loop paB)] ++ (P13 3 1 ++ (P13 4 3 ++ (P13 7 3 ++ (P13 10 2 ++ ([.block 2 (.loop paR)] ++ P13 13 2)))))) := by kernel_rfl
theorem paR_flat : flat paR = (flat paR).take 2 ++ ([.block 3 paX] ++ (flat paR).drop 3) := by kernel_rfl
theorem paX_flat : flat paX = (flat paX).take 1 ++ [.cond (.tmp 75) paY .skip] := by kernel_rfl
theorem paY_flat : flat paY = [.region 16 ops16 true] ++ (flat paY).drop 1 := by kernel_rfl
def NH : Heap := [some ⟨instC noInst, 24, none⟩]
def paF (s : ByteArray) (A : Nat) : Fr := [(0, .string s), (2, .pointer (some ⟨0, 0, none⟩)), (3, .bool false), (4, .int .i64 (Int.ofNat A))]
def paN (s : ByteArray) (A : Nat) (nm : ByteArray) : Fr := [(0, .string s), (2, .pointer (some ⟨0, 0, none⟩)), (3, .bool false), (4, .int .i64 (Int.ofNat A)), (5, .string nm)]
def paL (s : ByteArray) (A : Nat) (nm : ByteArray) (b1 : Bool) : Fr := [(0, .string s), (2, .pointer (some ⟨0, 0, none⟩)), (3, .bool false), (4, .int .i64 (Int.ofNat A)), (5, .string nm), (6, .bool b1)]
def paM (s : ByteArray) (A : Nat) (nm : ByteArray) (b1 b2 : Bool) : Fr := [(0, .string s), (2, .pointer (some ⟨0, 0, none⟩)), (3, .bool false), (4, .int .i64 (Int.ofNat A)), (5, .string nm), (6, .bool b1), (7, .bool b2)]
def paK (s : ByteArray) (A : Nat) (nm : ByteArray) (b1 b2 : Bool) (k : Int) : Fr := [(0, .string s), (2, .pointer (some ⟨0, 0, none⟩)), (3, .bool false), (4, .int .i64 (Int.ofNat A)), (5, .string nm), (6, .bool b1), (7, .bool b2), (8, gs 14 rlit 69), (9, .int .i64 k)]
def paT (s : ByteArray) (A : Nat) (nm : ByteArray) (b1 b2 : Bool) (k : Int) (c : Bool) : Fr := [(0, .string s), (2, .pointer (some ⟨0, 0, none⟩)), (3, .bool false), (4, .int .i64 (Int.ofNat A)), (5, .string nm), (6, .bool b1), (7, .bool b2), (8, gs 14 rlit 69), (9, .int .i64 k), (75, .bool c)]
def paH (s : ByteArray) (b1 b2 : Bool) : Fr := [(0, .string s), (2, .pointer (some ⟨0, 0, none⟩)), (3, .bool false), (6, .bool b1), (7, .bool b2), (10, .pointer (some ⟨1, 0, none⟩))]
def paE (b : Bool) : Fr := [(2, .pointer (some ⟨0, 0, none⟩)), (3, .bool b)]
section
variable (Ng : ByteArray → Int → Bool) (Nu : ByteArray → Int → List Int) (Rg : Int → Value → Bool) (Ri : Int → Value → Inst) (Eg : Inst → Bool) (Ew Eb : Inst → Int) (Pg : Inst → Bool) (Pt : Inst → ByteArray)
theorem pa_0 (s : ByteArray) : paRun Ng Nu Rg Ri Eg Ew Eb Pg Pt (P13 0 2) (enterF 0 [.string s]) [] (seeA [0, 2, 3, 4]) = oF .normal (paF s 0) NH := by kernel_rfl
theorem pa_b (s : ByteArray) (A : Nat) : paRun Ng Nu Rg Ri Eg Ew Eb Pg Pt (flat paB) (paF s A) NH (seeA [0, 2, 3, 4]) = bif decide (Int.ofNat A < Int.ofNat s.size) then (bif Nat.blt A s.size then (bif byteAt s A != 32 then some (.normal, [some (.string s), some (.pointer (some ⟨0, 0, none⟩)), some (.bool false), some (.int .i64 (w64 (Int.ofNat A + 1)))], NH) else oF (.exit 0) (paF s A) NH) else none) else oF (.exit 0) (paF s A) NH := by kernel_rfl
theorem pa_3 (s : ByteArray) (A : Nat) : paRun Ng Nu Rg Ri Eg Ew Eb Pg Pt (P13 3 1) (paF s A) NH (seeA [0, 2, 3, 4, 5]) = bif Nat.ble A s.size then oF .normal (paN s A (s.extract 0 A)) NH else none := by kernel_rfl
def cutT (nm : ByteArray) (sf : List UInt8) (y : ByteArray → Res) (n : Res) : Res :=
  bif decide (Int.ofNat nm.size > 3) then (bif decide (0 ≤ w64 (Int.ofNat nm.size - 3)) && (Nat.ble (w64 (Int.ofNat nm.size - 3)).toNat nm.size && Nat.ble nm.size nm.size) then (bif (nm.extract (w64 (Int.ofNat nm.size - 3)).toNat nm.size).toList == (ByteArray.mk ⟨sf⟩).toList then (bif decide (0 ≤ w64 (Int.ofNat nm.size - 3)) && (Nat.ble (w64 (Int.ofNat nm.size - 3)).toNat nm.size) then y (nm.extract 0 (w64 (Int.ofNat nm.size - 3)).toNat) else none) else n) else none) else n
theorem pa_4 (s : ByteArray) (A : Nat) (nm : ByteArray) : paRun Ng Nu Rg Ri Eg Ew Eb Pg Pt (P13 4 3) (paN s A nm) NH (seeA [0, 2, 3, 4, 5, 6]) = cutT nm [46, 114, 108] (fun m => oF .normal (paL s A m true) NH) (oF .normal (paL s A nm false) NH) := by kernel_rfl
theorem pa_7 (s : ByteArray) (A : Nat) (nm : ByteArray) (b1 : Bool) : paRun Ng Nu Rg Ri Eg Ew Eb Pg Pt (P13 7 3) (paL s A nm b1) NH (seeA [0, 2, 3, 4, 5, 6, 7]) = cutT nm [46, 97, 113] (fun m => oF .normal (paM s A m b1 true) NH) (oF .normal (paM s A nm b1 false) NH) := by kernel_rfl
theorem pa_10 (s : ByteArray) (A : Nat) (nm : ByteArray) (b1 b2 : Bool) : paRun Ng Nu Rg Ri Eg Ew Eb Pg Pt (P13 10 2) (paM s A nm b1 b2) NH (seeA [0, 2, 3, 4, 5, 6, 7, 8, 9]) = oF .normal (paK s A nm b1 b2 0) NH := by kernel_rfl
theorem pa_r (s : ByteArray) (A : Nat) (nm : ByteArray) (b1 b2 : Bool) (k : Int) : paRun Ng Nu Rg Ri Eg Ew Eb Pg Pt ((flat paR).take 2) (paK s A nm b1 b2 k) NH (seeA [0, 2, 3, 4, 5, 6, 7, 8, 9]) = bif decide (k < 69) then oF .normal (paK s A nm b1 b2 k) NH else oF (.exit 2) (paK s A nm b1 b2 k) NH := by kernel_rfl
theorem pa_n (s : ByteArray) (A : Nat) (nm : ByteArray) (b1 b2 : Bool) (k : Int) (c : Bool) : paRun Ng Nu Rg Ri Eg Ew Eb Pg Pt ((flat paR).drop 3) (paT s A nm b1 b2 k c) NH (seeA [0, 2, 3, 4, 5, 6, 7, 8, 9]) = oF .normal (paK s A nm b1 b2 (w64 (k + 1))) NH := by kernel_rfl
theorem pa_13 (s : ByteArray) (A : Nat) (nm : ByteArray) (b1 b2 : Bool) (k : Int) : paRun Ng Nu Rg Ri Eg Ew Eb Pg Pt (P13 13 2) (paK s A nm b1 b2 k) NH (seeA [2, 3]) = oF .ret (paE false) NH := by kernel_rfl
def aqrl (i : Inst) (aq rl : Bool) : Inst := ⟨i.op, i.rd, i.rs1, i.rs2, i.csr, i.imm, aq, rl⟩
def paO (i j : Inst) (b : Bool) : Res := oF .ret (paE b) [some ⟨instC i, 24, none⟩, some ⟨instC j, 24, none⟩]
theorem pa_y (s : ByteArray) (b1 b2 : Bool) (i : Inst) : paRun Ng Nu Rg Ri Eg Ew Eb Pg Pt ((flat paY).drop 1) (paH s b1 b2) [some ⟨instC noInst, 24, none⟩, some ⟨instC i, 24, none⟩] (seeA [2, 3]) =
    bif Eg (aqrl i b2 b1) then (bif Eb (aqrl i b2 b1) == 0 then (bif Pg (aqrl i b2 b1) then (bif (Pt (aqrl i b2 b1)).toList == s.toList then paO (aqrl i b2 b1) (aqrl i b2 b1) true else paO noInst (aqrl i b2 b1) false) else none) else paO noInst (aqrl i b2 b1) false) else none := by kernel_rfl
end
def paQ (s : ByteArray) (b1 b2 : Bool) (i : Inst) : List Seen := [((paH s b1 b2).map (fun e => some e.2), [some ⟨instC noInst, 24, none⟩, some ⟨instC i, 24, none⟩])]
def PaP (k : Nat) : Prop := ∀ (Ng : ByteArray → Int → Bool) (Nu : ByteArray → Int → List Int) (Rg : Int → Value → Bool) (Ri : Int → Value → Inst) (Eg : Inst → Bool) (Ew Eb : Inst → Int) (Pg : Inst → Bool) (Pt : Inst → ByteArray) (s : ByteArray) (A : Nat) (nm : ByteArray) (b1 b2 : Bool),
  paRun Ng Nu Rg Ri Eg Ew Eb Pg Pt ((flat paX).take 1) (paK s A nm b1 b2 (Int.ofNat k)) NH (seeA [0, 2, 3, 4, 5, 6, 7, 8, 9, 75]) = (bif (rrowAt k).nm.toList == nm.toList then oF .normal (paT s A nm b1 b2 (Int.ofNat k) true) NH else oF .normal (paT s A nm b1 b2 (Int.ofNat k) false) NH) ∧
  ordK (ctx (rpaΦ Ng Nu Rg Ri Eg Ew Eb Pg Pt)) (callK (ctx (rpaΦ Ng Nu Rg Ri Eg Ew Eb Pg Pt)) 20) 0 105 ops16.toList T16 (paT s A nm b1 b2 (Int.ofNat k) true) NH (leafO [0, 2, 3, 6, 7, 10]) =
    both (bif Ng s (Int.ofNat A) then both (bif Rg (Int.ofNat (k + 1)) (L1 (Nu s (Int.ofNat A))) then some (paQ s b1 b2 (Ri (Int.ofNat (k + 1)) (L1 (Nu s (Int.ofNat A))))) else none) (bif Rg (Int.ofNat (k + 1)) (L1 (Nu s (Int.ofNat A))) then some (paQ s b1 b2 (Ri (Int.ofNat (k + 1)) (L1 (Nu s (Int.ofNat A))))) else none) else none)
      (bif Ng s (Int.ofNat A) then (bif Rg (Int.ofNat (k + 1)) (L1 (Nu s (Int.ofNat A))) then some (paQ s b1 b2 (Ri (Int.ofNat (k + 1)) (L1 (Nu s (Int.ofNat A))))) else none) else none)
theorem pp0 : PaP 0 := fun _ _ _ _ _ _ _ _ _ _ _ _ _ _ => ⟨by kernel_rfl, by kernel_rfl⟩
theorem pp1 : PaP 1 := fun _ _ _ _ _ _ _ _ _ _ _ _ _ _ => ⟨by kernel_rfl, by kernel_rfl⟩
theorem pp2 : PaP 2 := fun _ _ _ _ _ _ _ _ _ _ _ _ _ _ => ⟨by kernel_rfl, by kernel_rfl⟩
theorem pp3 : PaP 3 := fun _ _ _ _ _ _ _ _ _ _ _ _ _ _ => ⟨by kernel_rfl, by kernel_rfl⟩
theorem pp4 : PaP 4 := fun _ _ _ _ _ _ _ _ _ _ _ _ _ _ => ⟨by kernel_rfl, by kernel_rfl⟩
theorem pp5 : PaP 5 := fun _ _ _ _ _ _ _ _ _ _ _ _ _ _ => ⟨by kernel_rfl, by kernel_rfl⟩
theorem pp6 : PaP 6 := fun _ _ _ _ _ _ _ _ _ _ _ _ _ _ => ⟨by kernel_rfl, by kernel_rfl⟩
theorem pp7 : PaP 7 := fun _ _ _ _ _ _ _ _ _ _ _ _ _ _ => ⟨by kernel_rfl, by kernel_rfl⟩
theorem pp8 : PaP 8 := fun _ _ _ _ _ _ _ _ _ _ _ _ _ _ => ⟨by kernel_rfl, by kernel_rfl⟩
theorem pp9 : PaP 9 := fun _ _ _ _ _ _ _ _ _ _ _ _ _ _ => ⟨by kernel_rfl, by kernel_rfl⟩
theorem pp10 : PaP 10 := fun _ _ _ _ _ _ _ _ _ _ _ _ _ _ => ⟨by kernel_rfl, by kernel_rfl⟩
theorem pp11 : PaP 11 := fun _ _ _ _ _ _ _ _ _ _ _ _ _ _ => ⟨by kernel_rfl, by kernel_rfl⟩
theorem pp12 : PaP 12 := fun _ _ _ _ _ _ _ _ _ _ _ _ _ _ => ⟨by kernel_rfl, by kernel_rfl⟩
theorem pp13 : PaP 13 := fun _ _ _ _ _ _ _ _ _ _ _ _ _ _ => ⟨by kernel_rfl, by kernel_rfl⟩
theorem pp14 : PaP 14 := fun _ _ _ _ _ _ _ _ _ _ _ _ _ _ => ⟨by kernel_rfl, by kernel_rfl⟩
theorem pp15 : PaP 15 := fun _ _ _ _ _ _ _ _ _ _ _ _ _ _ => ⟨by kernel_rfl, by kernel_rfl⟩
theorem pp16 : PaP 16 := fun _ _ _ _ _ _ _ _ _ _ _ _ _ _ => ⟨by kernel_rfl, by kernel_rfl⟩
theorem pp17 : PaP 17 := fun _ _ _ _ _ _ _ _ _ _ _ _ _ _ => ⟨by kernel_rfl, by kernel_rfl⟩
theorem pp18 : PaP 18 := fun _ _ _ _ _ _ _ _ _ _ _ _ _ _ => ⟨by kernel_rfl, by kernel_rfl⟩
theorem pp19 : PaP 19 := fun _ _ _ _ _ _ _ _ _ _ _ _ _ _ => ⟨by kernel_rfl, by kernel_rfl⟩
theorem pp20 : PaP 20 := fun _ _ _ _ _ _ _ _ _ _ _ _ _ _ => ⟨by kernel_rfl, by kernel_rfl⟩
theorem pp21 : PaP 21 := fun _ _ _ _ _ _ _ _ _ _ _ _ _ _ => ⟨by kernel_rfl, by kernel_rfl⟩
theorem pp22 : PaP 22 := fun _ _ _ _ _ _ _ _ _ _ _ _ _ _ => ⟨by kernel_rfl, by kernel_rfl⟩
theorem pp23 : PaP 23 := fun _ _ _ _ _ _ _ _ _ _ _ _ _ _ => ⟨by kernel_rfl, by kernel_rfl⟩
theorem pp24 : PaP 24 := fun _ _ _ _ _ _ _ _ _ _ _ _ _ _ => ⟨by kernel_rfl, by kernel_rfl⟩
theorem pp25 : PaP 25 := fun _ _ _ _ _ _ _ _ _ _ _ _ _ _ => ⟨by kernel_rfl, by kernel_rfl⟩
theorem pp26 : PaP 26 := fun _ _ _ _ _ _ _ _ _ _ _ _ _ _ => ⟨by kernel_rfl, by kernel_rfl⟩
theorem pp27 : PaP 27 := fun _ _ _ _ _ _ _ _ _ _ _ _ _ _ => ⟨by kernel_rfl, by kernel_rfl⟩
theorem pp28 : PaP 28 := fun _ _ _ _ _ _ _ _ _ _ _ _ _ _ => ⟨by kernel_rfl, by kernel_rfl⟩
theorem pp29 : PaP 29 := fun _ _ _ _ _ _ _ _ _ _ _ _ _ _ => ⟨by kernel_rfl, by kernel_rfl⟩
theorem pp30 : PaP 30 := fun _ _ _ _ _ _ _ _ _ _ _ _ _ _ => ⟨by kernel_rfl, by kernel_rfl⟩
theorem pp31 : PaP 31 := fun _ _ _ _ _ _ _ _ _ _ _ _ _ _ => ⟨by kernel_rfl, by kernel_rfl⟩
theorem pp32 : PaP 32 := fun _ _ _ _ _ _ _ _ _ _ _ _ _ _ => ⟨by kernel_rfl, by kernel_rfl⟩
theorem pp33 : PaP 33 := fun _ _ _ _ _ _ _ _ _ _ _ _ _ _ => ⟨by kernel_rfl, by kernel_rfl⟩
theorem pp34 : PaP 34 := fun _ _ _ _ _ _ _ _ _ _ _ _ _ _ => ⟨by kernel_rfl, by kernel_rfl⟩
theorem pp35 : PaP 35 := fun _ _ _ _ _ _ _ _ _ _ _ _ _ _ => ⟨by kernel_rfl, by kernel_rfl⟩
theorem pp36 : PaP 36 := fun _ _ _ _ _ _ _ _ _ _ _ _ _ _ => ⟨by kernel_rfl, by kernel_rfl⟩
theorem pp37 : PaP 37 := fun _ _ _ _ _ _ _ _ _ _ _ _ _ _ => ⟨by kernel_rfl, by kernel_rfl⟩
theorem pp38 : PaP 38 := fun _ _ _ _ _ _ _ _ _ _ _ _ _ _ => ⟨by kernel_rfl, by kernel_rfl⟩
theorem pp39 : PaP 39 := fun _ _ _ _ _ _ _ _ _ _ _ _ _ _ => ⟨by kernel_rfl, by kernel_rfl⟩
theorem pp40 : PaP 40 := fun _ _ _ _ _ _ _ _ _ _ _ _ _ _ => ⟨by kernel_rfl, by kernel_rfl⟩
theorem pp41 : PaP 41 := fun _ _ _ _ _ _ _ _ _ _ _ _ _ _ => ⟨by kernel_rfl, by kernel_rfl⟩
theorem pp42 : PaP 42 := fun _ _ _ _ _ _ _ _ _ _ _ _ _ _ => ⟨by kernel_rfl, by kernel_rfl⟩
theorem pp43 : PaP 43 := fun _ _ _ _ _ _ _ _ _ _ _ _ _ _ => ⟨by kernel_rfl, by kernel_rfl⟩
theorem pp44 : PaP 44 := fun _ _ _ _ _ _ _ _ _ _ _ _ _ _ => ⟨by kernel_rfl, by kernel_rfl⟩
theorem pp45 : PaP 45 := fun _ _ _ _ _ _ _ _ _ _ _ _ _ _ => ⟨by kernel_rfl, by kernel_rfl⟩
theorem pp46 : PaP 46 := fun _ _ _ _ _ _ _ _ _ _ _ _ _ _ => ⟨by kernel_rfl, by kernel_rfl⟩
theorem pp47 : PaP 47 := fun _ _ _ _ _ _ _ _ _ _ _ _ _ _ => ⟨by kernel_rfl, by kernel_rfl⟩
theorem pp48 : PaP 48 := fun _ _ _ _ _ _ _ _ _ _ _ _ _ _ => ⟨by kernel_rfl, by kernel_rfl⟩
theorem pp49 : PaP 49 := fun _ _ _ _ _ _ _ _ _ _ _ _ _ _ => ⟨by kernel_rfl, by kernel_rfl⟩
theorem pp50 : PaP 50 := fun _ _ _ _ _ _ _ _ _ _ _ _ _ _ => ⟨by kernel_rfl, by kernel_rfl⟩
theorem pp51 : PaP 51 := fun _ _ _ _ _ _ _ _ _ _ _ _ _ _ => ⟨by kernel_rfl, by kernel_rfl⟩
theorem pp52 : PaP 52 := fun _ _ _ _ _ _ _ _ _ _ _ _ _ _ => ⟨by kernel_rfl, by kernel_rfl⟩
theorem pp53 : PaP 53 := fun _ _ _ _ _ _ _ _ _ _ _ _ _ _ => ⟨by kernel_rfl, by kernel_rfl⟩
theorem pp54 : PaP 54 := fun _ _ _ _ _ _ _ _ _ _ _ _ _ _ => ⟨by kernel_rfl, by kernel_rfl⟩
theorem pp55 : PaP 55 := fun _ _ _ _ _ _ _ _ _ _ _ _ _ _ => ⟨by kernel_rfl, by kernel_rfl⟩
theorem pp56 : PaP 56 := fun _ _ _ _ _ _ _ _ _ _ _ _ _ _ => ⟨by kernel_rfl, by kernel_rfl⟩
theorem pp57 : PaP 57 := fun _ _ _ _ _ _ _ _ _ _ _ _ _ _ => ⟨by kernel_rfl, by kernel_rfl⟩
theorem pp58 : PaP 58 := fun _ _ _ _ _ _ _ _ _ _ _ _ _ _ => ⟨by kernel_rfl, by kernel_rfl⟩
theorem pp59 : PaP 59 := fun _ _ _ _ _ _ _ _ _ _ _ _ _ _ => ⟨by kernel_rfl, by kernel_rfl⟩
theorem pp60 : PaP 60 := fun _ _ _ _ _ _ _ _ _ _ _ _ _ _ => ⟨by kernel_rfl, by kernel_rfl⟩
theorem pp61 : PaP 61 := fun _ _ _ _ _ _ _ _ _ _ _ _ _ _ => ⟨by kernel_rfl, by kernel_rfl⟩
theorem pp62 : PaP 62 := fun _ _ _ _ _ _ _ _ _ _ _ _ _ _ => ⟨by kernel_rfl, by kernel_rfl⟩
theorem pp63 : PaP 63 := fun _ _ _ _ _ _ _ _ _ _ _ _ _ _ => ⟨by kernel_rfl, by kernel_rfl⟩
theorem pp64 : PaP 64 := fun _ _ _ _ _ _ _ _ _ _ _ _ _ _ => ⟨by kernel_rfl, by kernel_rfl⟩
theorem pp65 : PaP 65 := fun _ _ _ _ _ _ _ _ _ _ _ _ _ _ => ⟨by kernel_rfl, by kernel_rfl⟩
theorem pp66 : PaP 66 := fun _ _ _ _ _ _ _ _ _ _ _ _ _ _ => ⟨by kernel_rfl, by kernel_rfl⟩
theorem pp67 : PaP 67 := fun _ _ _ _ _ _ _ _ _ _ _ _ _ _ => ⟨by kernel_rfl, by kernel_rfl⟩
theorem pp68 : PaP 68 := fun _ _ _ _ _ _ _ _ _ _ _ _ _ _ => ⟨by kernel_rfl, by kernel_rfl⟩
theorem ppAll : ∀ k : Nat, k < 69 → PaP k
  | 0, _ => pp0
  | 1, _ => pp1
  | 2, _ => pp2
  | 3, _ => pp3
  | 4, _ => pp4
  | 5, _ => pp5
  | 6, _ => pp6
  | 7, _ => pp7
  | 8, _ => pp8
  | 9, _ => pp9
  | 10, _ => pp10
  | 11, _ => pp11
  | 12, _ => pp12
  | 13, _ => pp13
  | 14, _ => pp14
  | 15, _ => pp15
  | 16, _ => pp16
  | 17, _ => pp17
  | 18, _ => pp18
  | 19, _ => pp19
  | 20, _ => pp20
  | 21, _ => pp21
  | 22, _ => pp22
  | 23, _ => pp23
  | 24, _ => pp24
  | 25, _ => pp25
  | 26, _ => pp26
  | 27, _ => pp27
  | 28, _ => pp28
  | 29, _ => pp29
  | 30, _ => pp30
  | 31, _ => pp31
  | 32, _ => pp32
  | 33, _ => pp33
  | 34, _ => pp34
  | 35, _ => pp35
  | 36, _ => pp36
  | 37, _ => pp37
  | 38, _ => pp38
  | 39, _ => pp39
  | 40, _ => pp40
  | 41, _ => pp41
  | 42, _ => pp42
  | 43, _ => pp43
  | 44, _ => pp44
  | 45, _ => pp45
  | 46, _ => pp46
  | 47, _ => pp47
  | 48, _ => pp48
  | 49, _ => pp49
  | 50, _ => pp50
  | 51, _ => pp51
  | 52, _ => pp52
  | 53, _ => pp53
  | 54, _ => pp54
  | 55, _ => pp55
  | 56, _ => pp56
  | 57, _ => pp57
  | 58, _ => pp58
  | 59, _ => pp59
  | 60, _ => pp60
  | 61, _ => pp61
  | 62, _ => pp62
  | 63, _ => pp63
  | 64, _ => pp64
  | 65, _ => pp65
  | 66, _ => pp66
  | 67, _ => pp67
  | 68, _ => pp68
  | k + 69, h => absurd h (by omega)
theorem pa_d1 : (P13 0 2).all (drawsOK ((ctx noΦ).dr 13)) = true := by kernel_rfl
theorem pa_d2 : (flat paB).all (drawsOK ((ctx noΦ).dr 13)) = true := by kernel_rfl
theorem pa_d3 : (P13 3 1).all (drawsOK ((ctx noΦ).dr 13)) = true := by kernel_rfl
theorem pa_d4 : (P13 4 3).all (drawsOK ((ctx noΦ).dr 13)) = true := by kernel_rfl
theorem pa_d5 : (P13 7 3).all (drawsOK ((ctx noΦ).dr 13)) = true := by kernel_rfl
theorem pa_d6 : (P13 10 2).all (drawsOK ((ctx noΦ).dr 13)) = true := by kernel_rfl
theorem pa_d7 : ((flat paR).take 2).all (drawsOK ((ctx noΦ).dr 13)) = true := by kernel_rfl
theorem pa_d8 : ((flat paR).drop 3).all (drawsOK ((ctx noΦ).dr 13)) = true := by kernel_rfl
theorem pa_d9 : (P13 13 2).all (drawsOK ((ctx noΦ).dr 13)) = true := by kernel_rfl
theorem pa_d10 : ((flat paY).drop 1).all (drawsOK ((ctx noΦ).dr 13)) = true := by kernel_rfl
theorem pa_d11 : ((flat paX).take 1).all (drawsOK ((ctx noΦ).dr 13)) = true := by kernel_rfl
end Go.Proofs.YtgkicojmgokinaaGreatDoor.Ab
