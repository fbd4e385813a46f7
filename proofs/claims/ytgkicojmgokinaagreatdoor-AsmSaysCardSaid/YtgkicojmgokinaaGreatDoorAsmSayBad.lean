/- Trimmed: AsmSayBad -/
import Derived.Test.YtgkicojmgokinaaGreatDoorAsmSayEnc
namespace Go.Proofs.YtgkicojmgokinaaGreatDoor.Ab
open Go Go.RowKit
set_option linter.unusedVariables false
set_option linter.unusedSimpArgs false
set_option maxRecDepth 100000
def badN (g : Nat) : Int := match g with
  | 0 => 0
  | 1 => 102
  | 2 => 106
  | 3 => 104
  | _ => -1
def errO (t : Option Value) : Nat := match t with
  | some v => errN v
  | none => 9
theorem reG_eq (n : Int) (t : Option Value) : reG n t = bif isReg n then t else reA 0 106 := by
  unfold reG isReg
  have e : decide (n ≥ 0) = decide (0 ≤ n) := rfl
  rw [e]
  cases decide (0 ≤ n) <;> cases decide (n ≤ 31) <;> rfl
theorem reZ_eq (f : Bool) (n : Int) (t : Option Value) : reZ f n t = bif !f && n != 0 then reA 0 104 else t := by
  unfold reZ
  cases f <;> cases (n != 0) <;> rfl
theorem reP_eq (p aq rl : Bool) (t : Option Value) : reP p aq rl t = bif !p && aq then reA 0 104 else bif !p && rl then reA 0 104 else t := by
  cases p <;> cases aq <;> cases rl <;> rfl
theorem errO_rng (n : Int) (k : Option Value) : errO (rng n k) = bif isReg n then errO k else 2 := by
  unfold rng isReg
  by_cases h0 : n < 0
  · rw [decide_eq_true h0, decide_eq_false (show ¬ 0 ≤ n by omega)]; rfl
  · rw [decide_eq_false h0, decide_eq_true (show 0 ≤ n by omega)]
    by_cases h1 : n > 31
    · rw [decide_eq_true h1, decide_eq_false (show ¬ n ≤ 31 by omega)]; rfl
    · rw [decide_eq_false h1, decide_eq_true (show n ≤ 31 by omega)]; rfl
theorem errO_ck (f c : Bool) (k : Option Value) : errO (ck f c k) = bif f && c then 3 else errO k := by
  cases f <;> cases c <;> rfl
theorem errO_bif (b : Bool) (s t : Option Value) : errO (bif b then s else t) = bif b then errO s else errO t := by cases b <;> rfl
theorem errO_fin {J : Int → Int → Int → Int → Int → Int → Int} {fm : Nat} {a b c d : Bool} {opc f3 f7 rd rs1 rs2 csr imm : Int} {aq rl : Bool} {w : Int} : errO (encT J fm a b c d opc f3 f7 rd rs1 rs2 csr imm aq rl w) =
    bif !a && rd != 0 then 3 else bif !b && rs1 != 0 then 3 else bif !c && rs2 != 0 then 3 else bif !d && imm != 0 then 3 else bif !isC fm && csr != 0 then 3 else bif !isA fm && aq then 3 else bif !isA fm && rl then 3 else 0 := by
  unfold encT
  rw [errO_ck, errO_ck, errO_ck, errO_ck, errO_ck, errO_ck, errO_ck]
  have e : ∀ t : Option Value, errO t = 0 → ∀ n : Nat, n = errO t → n = 0 := fun t h n hn => by rw [hn, h]
  congr 7
  cases isN fm <;> cases isA fm <;> cases aq <;> cases rl <;> rfl
theorem errO_K {Ly : Int → Int → Int × Bool} {J : Int → Int → Int → Int → Int → Int → Int} {fm : Nat} {a b c d : Bool} {opc f3 f7 rd rs1 rs2 csr imm : Int} {aq rl : Bool} : errO (encK Ly J fm a b c d opc f3 f7 rd rs1 rs2 csr imm aq rl) =
    bif isReg rd then (bif isReg rs1 then (bif isReg rs2 then (bif decide (csr < 0) then 2 else bif decide (csr > 4095) then 2 else bif d && !(Ly (fm : Int) imm).2 then 2 else
      bif !a && rd != 0 then 3 else bif !b && rs1 != 0 then 3 else bif !c && rs2 != 0 then 3 else bif !d && imm != 0 then 3 else bif !isC fm && csr != 0 then 3 else bif !isA fm && aq then 3 else bif !isA fm && rl then 3 else 0) else 2) else 2) else 2 := by
  unfold encK
  rw [errO_rng, errO_rng, errO_rng, errO_bif, errO_bif]
  cases d with
  | true =>
    simp only [cond_true, Bool.true_and]
    rw [errO_bif, errO_fin]
    cases (Ly (fm : Int) imm).2 <;> rfl
  | false =>
    simp only [cond_false, Bool.false_and]
    rw [errO_fin]; rfl
theorem reT_bad {Ly L2 : Int → Int → Int × Bool} {Wd : RRow → Inst → Int} {J : Int → Int → Int → Int → Int → Int → Int} {r : RRow} {fm : Nat} {opc f3 f7 : Int} {i : Inst} (hc : isC fm = r.uc) (ha : isA fm = r.pr) (hl : (r.fmt != 0) = true → (Ly r.fmt i.imm).2 = (L2 (fm : Int) i.imm).2) :
    ∃ w, reT Ly Wd r i = reA w (badN (errO (encK L2 J fm r.ud r.ua r.ub (r.fmt != 0) opc f3 f7 i.rd i.rs1 i.rs2 i.csr i.imm i.aq i.rl))) := by
  have e : ∀ h : Bool, ((r.fmt != 0) = true → h = (L2 (fm : Int) i.imm).2) → ∃ w, reS Wd r i h = reA w (badN (errO (encK L2 J fm r.ud r.ua r.ub (r.fmt != 0) opc f3 f7 i.rd i.rs1 i.rs2 i.csr i.imm i.aq i.rl))) := by
    intro h hh
    rw [errO_K]
    unfold reS
    rw [reG_eq, reG_eq, reG_eq, reZ_eq, reZ_eq, reZ_eq, reZ_eq, reZ_eq, reP_eq, hc, ha]
    have hd : ((r.fmt != 0) && !h) = ((r.fmt != 0) && !(L2 (fm : Int) i.imm).2) := by
      cases hf : (r.fmt != 0) with
      | false => rfl
      | true => rw [hh hf]
    rw [hd]
    generalize ((r.fmt != 0) && !(L2 (fm : Int) i.imm).2) = y0
    generalize (!r.ud && i.rd != 0) = y1
    generalize (!r.ua && i.rs1 != 0) = y2
    generalize (!r.ub && i.rs2 != 0) = y3
    generalize (!r.uc && i.csr != 0) = y4
    generalize (!(r.fmt != 0) && i.imm != 0) = y5
    generalize (!r.pr && i.aq) = y6
    generalize (!r.pr && i.rl) = y7
    generalize decide (i.csr < 0) = c1
    generalize decide (i.csr > 4095) = c2
    cases isReg i.rd
    · exact ⟨0, rfl⟩
    cases isReg i.rs1
    · exact ⟨0, rfl⟩
    cases isReg i.rs2
    · exact ⟨0, rfl⟩
    cases c1
    case true => exact ⟨0, rfl⟩
    cases c2
    case true => exact ⟨0, rfl⟩
    cases y0
    case true => exact ⟨0, rfl⟩
    cases y1
    case true => exact ⟨0, rfl⟩
    cases y2
    case true => exact ⟨0, rfl⟩
    cases y3
    case true => exact ⟨0, rfl⟩
    cases y4 <;> cases y5
    case true.true => exact ⟨0, rfl⟩
    case true.false => exact ⟨0, rfl⟩
    case false.true => exact ⟨0, rfl⟩
    cases y6
    case true => exact ⟨0, rfl⟩
    cases y7
    case true => exact ⟨0, rfl⟩
    exact ⟨Wd r i, rfl⟩
  unfold reT
  cases hb : (Ly r.fmt i.imm).2 with
  | true => exact e true fun hf => by rw [← hl hf, hb]
  | false => exact e false fun hf => by rw [← hl hf, hb]
def fmtF (fm : Nat) : Int := [85, 74, 73, 66, 83, 90, 0, 70, 0, 0, 0, 67, 0, 0].getD fm 0
def rrF (k : Nat) : Bool := isC (formF ((k : Int) + 1)) == (rrowAt k).uc && (isA (formF ((k : Int) + 1)) == (rrowAt k).pr && ((rrowAt k).fmt == fmtF (formF ((k : Int) + 1)) && (Nat.ble (formF ((k : Int) + 1)) 13 &&
  ((usesF (formF ((k : Int) + 1))).1 == (rrowAt k).ud && ((usesF (formF ((k : Int) + 1))).2.1 == (rrowAt k).ua && ((usesF (formF ((k : Int) + 1))).2.2.1 == (rrowAt k).ub && (usesF (formF ((k : Int) + 1))).2.2.2 == ((rrowAt k).fmt != 0)))))))
theorem rrF0 : rrF 0 = true := by kernel_rfl
theorem rrF1 : rrF 1 = true := by kernel_rfl
theorem rrF2 : rrF 2 = true := by kernel_rfl
theorem rrF3 : rrF 3 = true := by kernel_rfl
theorem rrF4 : rrF 4 = true := by kernel_rfl
theorem rrF5 : rrF 5 = true := by kernel_rfl
theorem rrF6 : rrF 6 = true := by kernel_rfl
theorem rrF7 : rrF 7 = true := by kernel_rfl
theorem rrF8 : rrF 8 = true := by kernel_rfl
theorem rrF9 : rrF 9 = true := by kernel_rfl
theorem rrF10 : rrF 10 = true := by kernel_rfl
theorem rrF11 : rrF 11 = true := by kernel_rfl
theorem rrF12 : rrF 12 = true := by kernel_rfl
theorem rrF13 : rrF 13 = true := by kernel_rfl
theorem rrF14 : rrF 14 = true := by kernel_rfl
theorem rrF15 : rrF 15 = true := by kernel_rfl
theorem rrF16 : rrF 16 = true := by kernel_rfl
theorem rrF17 : rrF 17 = true := by kernel_rfl
theorem rrF18 : rrF 18 = true := by kernel_rfl
theorem rrF19 : rrF 19 = true := by kernel_rfl
theorem rrF20 : rrF 20 = true := by kernel_rfl
theorem rrF21 : rrF 21 = true := by kernel_rfl
theorem rrF22 : rrF 22 = true := by kernel_rfl
theorem rrF23 : rrF 23 = true := by kernel_rfl
theorem rrF24 : rrF 24 = true := by kernel_rfl
theorem rrF25 : rrF 25 = true := by kernel_rfl
theorem rrF26 : rrF 26 = true := by kernel_rfl
theorem rrF27 : rrF 27 = true := by kernel_rfl
theorem rrF28 : rrF 28 = true := by kernel_rfl
theorem rrF29 : rrF 29 = true := by kernel_rfl
theorem rrF30 : rrF 30 = true := by kernel_rfl
theorem rrF31 : rrF 31 = true := by kernel_rfl
theorem rrF32 : rrF 32 = true := by kernel_rfl
theorem rrF33 : rrF 33 = true := by kernel_rfl
theorem rrF34 : rrF 34 = true := by kernel_rfl
theorem rrF35 : rrF 35 = true := by kernel_rfl
theorem rrF36 : rrF 36 = true := by kernel_rfl
theorem rrF37 : rrF 37 = true := by kernel_rfl
theorem rrF38 : rrF 38 = true := by kernel_rfl
theorem rrF39 : rrF 39 = true := by kernel_rfl
theorem rrF40 : rrF 40 = true := by kernel_rfl
theorem rrF41 : rrF 41 = true := by kernel_rfl
theorem rrF42 : rrF 42 = true := by kernel_rfl
theorem rrF43 : rrF 43 = true := by kernel_rfl
theorem rrF44 : rrF 44 = true := by kernel_rfl
theorem rrF45 : rrF 45 = true := by kernel_rfl
theorem rrF46 : rrF 46 = true := by kernel_rfl
theorem rrF47 : rrF 47 = true := by kernel_rfl
theorem rrF48 : rrF 48 = true := by kernel_rfl
theorem rrF49 : rrF 49 = true := by kernel_rfl
theorem rrF50 : rrF 50 = true := by kernel_rfl
theorem rrF51 : rrF 51 = true := by kernel_rfl
theorem rrF52 : rrF 52 = true := by kernel_rfl
theorem rrF53 : rrF 53 = true := by kernel_rfl
theorem rrF54 : rrF 54 = true := by kernel_rfl
theorem rrF55 : rrF 55 = true := by kernel_rfl
theorem rrF56 : rrF 56 = true := by kernel_rfl
theorem rrF57 : rrF 57 = true := by kernel_rfl
theorem rrF58 : rrF 58 = true := by kernel_rfl
theorem rrF59 : rrF 59 = true := by kernel_rfl
theorem rrF60 : rrF 60 = true := by kernel_rfl
theorem rrF61 : rrF 61 = true := by kernel_rfl
theorem rrF62 : rrF 62 = true := by kernel_rfl
theorem rrF63 : rrF 63 = true := by kernel_rfl
theorem rrF64 : rrF 64 = true := by kernel_rfl
theorem rrF65 : rrF 65 = true := by kernel_rfl
theorem rrF66 : rrF 66 = true := by kernel_rfl
theorem rrF67 : rrF 67 = true := by kernel_rfl
theorem rrF68 : rrF 68 = true := by kernel_rfl
theorem rrF_all : ∀ k : Nat, k < 69 → rrF k = true
  | 0, _ => rrF0
  | 1, _ => rrF1
  | 2, _ => rrF2
  | 3, _ => rrF3
  | 4, _ => rrF4
  | 5, _ => rrF5
  | 6, _ => rrF6
  | 7, _ => rrF7
  | 8, _ => rrF8
  | 9, _ => rrF9
  | 10, _ => rrF10
  | 11, _ => rrF11
  | 12, _ => rrF12
  | 13, _ => rrF13
  | 14, _ => rrF14
  | 15, _ => rrF15
  | 16, _ => rrF16
  | 17, _ => rrF17
  | 18, _ => rrF18
  | 19, _ => rrF19
  | 20, _ => rrF20
  | 21, _ => rrF21
  | 22, _ => rrF22
  | 23, _ => rrF23
  | 24, _ => rrF24
  | 25, _ => rrF25
  | 26, _ => rrF26
  | 27, _ => rrF27
  | 28, _ => rrF28
  | 29, _ => rrF29
  | 30, _ => rrF30
  | 31, _ => rrF31
  | 32, _ => rrF32
  | 33, _ => rrF33
  | 34, _ => rrF34
  | 35, _ => rrF35
  | 36, _ => rrF36
  | 37, _ => rrF37
  | 38, _ => rrF38
  | 39, _ => rrF39
  | 40, _ => rrF40
  | 41, _ => rrF41
  | 42, _ => rrF42
  | 43, _ => rrF43
  | 44, _ => rrF44
  | 45, _ => rrF45
  | 46, _ => rrF46
  | 47, _ => rrF47
  | 48, _ => rrF48
  | 49, _ => rrF49
  | 50, _ => rrF50
  | 51, _ => rrF51
  | 52, _ => rrF52
  | 53, _ => rrF53
  | 54, _ => rrF54
  | 55, _ => rrF55
  | 56, _ => rrF56
  | 57, _ => rrF57
  | 58, _ => rrF58
  | 59, _ => rrF59
  | 60, _ => rrF60
  | 61, _ => rrF61
  | 62, _ => rrF62
  | 63, _ => rrF63
  | 64, _ => rrF64
  | 65, _ => rrF65
  | 66, _ => rrF66
  | 67, _ => rrF67
  | 68, _ => rrF68
  | n + 69, h => absurd h (by omega)
theorem lay_same {fm : Nat} (hf : fm ≤ 13) {x : Int} (hx : W32 x) (h : (fmtF fm != 0) = true) : (rlyV (fmtF fm) x).2 = (rlayF layV (fm : Int) x).2 := by
  have hh : fm = 0 ∨ fm = 1 ∨ fm = 2 ∨ fm = 3 ∨ fm = 4 ∨ fm = 5 ∨ fm = 6 ∨ fm = 7 ∨ fm = 8 ∨ fm = 9 ∨ fm = 10 ∨ fm = 11 ∨ fm = 12 ∨ fm = 13 := by omega
  rcases hh with rfl | rfl | rfl | rfl | rfl | rfl | rfl | rfl | rfl | rfl | rfl | rfl | rfl | rfl
  · show (rlyV 85 x).2 = (rlayF layV 0 x).2
    rw [rlyV_U hx, show rlayF layV 0 x = layV 85 x by simp [rlayF], layV_U hx]
  · show (rlyV 74 x).2 = (rlayF layV 1 x).2
    rw [rlyV_J hx, show rlayF layV 1 x = layV 74 x by simp [rlayF], layV_J hx]
  · show (rlyV 73 x).2 = (rlayF layV 2 x).2
    rw [rlyV_I hx, show rlayF layV 2 x = layV 73 x by simp [rlayF], layV_I hx]
  · show (rlyV 66 x).2 = (rlayF layV 3 x).2
    rw [rlyV_B hx, show rlayF layV 3 x = layV 66 x by simp [rlayF], layV_B hx]
  · show (rlyV 83 x).2 = (rlayF layV 4 x).2
    rw [rlyV_S hx, show rlayF layV 4 x = layV 83 x by simp [rlayF], layV_S hx]
  · show (rlyV 90 x).2 = (rlayF layV 5 x).2
    simp [rlyV, rlayF]
  · cases h
  · show (rlyV 70 x).2 = (rlayF layV 7 x).2
    simp [rlyV, rlayF]
  · cases h
  · cases h
  · cases h
  · show (rlyV 67 x).2 = (rlayF layV 11 x).2
    simp [rlyV, rlayF]
  · cases h
  · cases h
theorem encE_op {i : Inst} (h : isOp i.op = true) : encE i = errO (encK (rlayF layV) joinV (formF i.op) (usesF (formF i.op)).1 (usesF (formF i.op)).2.1 (usesF (formF i.op)).2.2.1 (usesF (formF i.op)).2.2.2 (opcL.getD (i.op - 1).toNat 0) (f3L.getD (i.op - 1).toNat 0) (f7L.getD (i.op - 1).toNat 0) i.rd i.rs1 i.rs2 i.csr i.imm i.aq i.rl) := by
  unfold encE encV
  rw [h, cond_true]
  obtain ⟨v, hv, _⟩ := encK_tree (rlayF layV) joinV (formF i.op) (usesF (formF i.op)).1 (usesF (formF i.op)).2.1 (usesF (formF i.op)).2.2.1 (usesF (formF i.op)).2.2.2 (opcL.getD (i.op - 1).toNat 0) (f3L.getD (i.op - 1).toNat 0) (f7L.getD (i.op - 1).toNat 0) i.rd i.rs1 i.rs2 i.csr i.imm i.aq i.rl
  rw [hv]; rfl
theorem encE_no {i : Inst} (h : isOp i.op = false) : encE i = 1 := by
  unfold encE encV
  rw [h]; rfl
noncomputable def renNoΦ : Oracle := fun lo f args H => match f with
  | 29 => match args with
    | [.int .i64 op] => some [(!isOp op, ofNo, H)]
    | _ => none
  | _ => none
theorem renNoΦ_ok : CtxOK Tryz.prog (ctx renNoΦ) := ctxOK fun lo f args H l v H' h hm => by
  unfold renNoΦ at h
  split at h
  · split at h
    · cases h
      simp only [List.mem_cons, List.not_mem_nil, or_false, Prod.mk.injEq] at hm
      obtain ⟨hc, rfl, rfl⟩ := hm
      exact ⟨(ofNoOK (by simpa using hc.symm)).call (gh_plains rfl) lo H', rfl⟩
    · cases h
  · cases h
theorem ren_no (op rd rs1 rs2 csr imm : Int) (aq rl : Bool) : callK (ctx renNoΦ) 20 0 10 [instV ⟨op, rd, rs1, rs2, csr, imm, aq, rl⟩] [] (fun v _ => some v) = bif !isOp op then reA 0 102 else none := by kernel_rfl
theorem rencE (i : Inst) (hi : i.wf) : ∃ w, PureOK Tryz.prog 10 [instV i] (.tuple ⟨[.int .u32 w, .int .i64 (badN (encE i))]⟩) := by
  cases ho : isOp i.op with
  | false =>
    refine ⟨0, ?_⟩
    rw [encE_no ho]
    obtain ⟨op, rd, rs1, rs2, csr, imm, aq, rl⟩ := i
    have r := ren_no op rd rs1 rs2 csr imm aq rl
    simp only at ho
    rw [ho] at r
    exact PureOK.of_run renNoΦ_ok r (Gh.plain rfl)
  | true =>
    obtain ⟨op, rd, rs1, rs2, csr, imm, aq, rl⟩ := i
    have ho' := ho
    simp only [isOp, Bool.and_eq_true, decide_eq_true_eq] at ho'
    obtain ⟨k, hk, rfl⟩ : ∃ k : Nat, k < 69 ∧ op = (k : Int) + 1 := ⟨(op - 1).toNat, by omega, by omega⟩
    have hf := rrF_all k hk
    simp only [rrF, Bool.and_eq_true, beq_iff_eq] at hf
    obtain ⟨f1, f2, f3, f4, f5, f6, f7, f8⟩ := hf
    obtain ⟨w, hw⟩ := reT_bad (Ly := rlyV) (L2 := rlayF layV) (Wd := rwV rlyV) (J := joinV) (r := rrowAt k) (fm := formF ((k : Int) + 1)) (opc := opcL.getD ((k : Int) + 1 - 1).toNat 0) (f3 := f3L.getD ((k : Int) + 1 - 1).toNat 0) (f7 := f7L.getD ((k : Int) + 1 - 1).toNat 0) (i := ⟨(k : Int) + 1, rd, rs1, rs2, csr, imm, aq, rl⟩) f1 f2 (fun hne => by
      rw [f3] at hne ⊢
      exact lay_same (Nat.le_of_ble_eq_true f4) hi hne)
    refine ⟨w, ?_⟩
    rw [encE_op ho]
    simp only [f5, f6, f7, f8]
    exact PureOK.of_run reΦ_ok ((reAll rlyV (rwV rlyV) rd rs1 rs2 csr imm aq rl k hk).trans hw) (Gh.plain rfl)
noncomputable def rencW (i : Inst) (hi : i.wf) : Int := (rencE i hi).choose
theorem rencOK (i : Inst) (hi : i.wf) : PureOK Tryz.prog 10 [instV i] (.tuple ⟨[.int .u32 (rencW i hi), .int .i64 (badN (encE i))]⟩) := (rencE i hi).choose_spec
end Go.Proofs.YtgkicojmgokinaaGreatDoor.Ab
