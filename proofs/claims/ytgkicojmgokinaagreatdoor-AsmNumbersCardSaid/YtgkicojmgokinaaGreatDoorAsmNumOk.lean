/- Several texts as one: AsmDec, AsmNumRun, AsmNumEnc, AsmNumOk. -/
import Derived.Test.YtgkicojmgokinaaGreatDoorAsmRun0
namespace Go.Proofs.YtgkicojmgokinaaGreatDoor.Ab
open Go Go.RowKit
set_option linter.unusedVariables false
set_option linter.unusedSimpArgs false
set_option maxRecDepth 100000
noncomputable def dcΨ (B : Int → Bool) (D : Int → ByteArray) : Oracle := fun lo f args H => match f with
  | 23 => match args with
    | [.int .i64 n] => some [(B n, .string (D n), H)]
    | _ => none
  | _ => none
noncomputable def dcRun (B : Int → Bool) (D : Int → ByteArray) (n : Int) : Res :=
  runL ((ctx (dcΨ B D)).at_ 23) (callK (ctx (dcΨ B D)) 20) 20 0 22 23 (keeps 23) (flat (bodyOf 23)) (enterF 0 [.int .i64 n]) [] (seeA [2])
theorem fn23 : sigOf 23 = some (22, [.tmp 2]) := by kernel_rfl
def minS : ByteArray := ⟨#[45]⟩
def numS : ByteArray := ⟨#[48, 49, 50, 51, 52, 53, 54, 55, 56, 57]⟩
def dcSl (n : Int) : Bool := decide (0 ≤ n) && (decide (0 ≤ IntKind.i64.wrap (n + 1)) && (Nat.ble n.toNat (IntKind.i64.wrap (n + 1)).toNat && Nat.ble (IntKind.i64.wrap (n + 1)).toNat numS.size))
theorem dc_run (B : Int → Bool) (D : Int → ByteArray) (n : Int) : dcRun B D n =
    bif decide (n < 0) then bif B (IntKind.i64.wrap (0 - n)) then bif okLen minS (D (IntKind.i64.wrap (0 - n))) then some (.ret, [some (.string (minS ++ D (IntKind.i64.wrap (0 - n))))], []) else none else none else
    bif decide (n < 10) then bif dcSl n then some (.ret, [some (.string (numS.extract n.toNat (IntKind.i64.wrap (n + 1)).toNat))], []) else none else
    bif B (IntKind.i64.wrap (n.tdiv 10)) then bif B (n.tmod 10) then bif okLen (D (IntKind.i64.wrap (n.tdiv 10))) (D (n.tmod 10)) then some (.ret, [some (.string (D (IntKind.i64.wrap (n.tdiv 10)) ++ D (n.tmod 10)))], []) else none else none else none := by kernel_rfl
theorem dc_neg (B : Int → Bool) (D : Int → ByteArray) (n : Int) (h : n < 0) : dcRun B D n = bif B (IntKind.i64.wrap (0 - n)) then bif okLen minS (D (IntKind.i64.wrap (0 - n))) then some (.ret, [some (.string (minS ++ D (IntKind.i64.wrap (0 - n))))], []) else none else none := by
  rw [dc_run, decide_eq_true h, cond_true]
theorem dc_big (B : Int → Bool) (D : Int → ByteArray) (n : Int) (h : 10 ≤ n) : dcRun B D n = bif B (IntKind.i64.wrap (n.tdiv 10)) then bif B (n.tmod 10) then bif okLen (D (IntKind.i64.wrap (n.tdiv 10))) (D (n.tmod 10)) then some (.ret, [some (.string (D (IntKind.i64.wrap (n.tdiv 10)) ++ D (n.tmod 10)))], []) else none else none else none := by
  rw [dc_run, decide_eq_false (show ¬ n < 0 by omega), decide_eq_false (show ¬ n < 10 by omega), cond_false, cond_false]
theorem dc_dr (B : Int → Bool) (D : Int → ByteArray) : (flat (bodyOf 23)).all (drawsOK ((ctx (dcΨ B D)).dr 23)) = true := by kernel_rfl
def itoS (n : Int) : ByteArray := bs (Lib.itoa n)
noncomputable def dcG (n : Int) : Bool := isPure 23 [.int .i64 n] (.string (itoS n))
theorem dcΨ_ok : CtxOK Tryz.prog (ctx (dcΨ dcG itoS)) := ctxOK fun lo f args H l v H' h hm => by
  unfold dcΨ at h
  split at h
  · split at h
    · cases h
      simp only [List.mem_cons, List.not_mem_nil, or_false, Prod.mk.injEq] at hm
      obtain ⟨hc, rfl, rfl⟩ := hm
      exact ⟨isPure_call hc lo H', rfl⟩
    · cases h
  · cases h
theorem dc_pure {n : Int} {s : ByteArray} (h : dcRun dcG itoS n = some (.ret, [some (.string s)], [])) : PureOK Tryz.prog 23 [.int .i64 n] (.string s) := by
  obtain ⟨fn, f1, f2, f3, f4⟩ := fnOf fn23
  have r := RowOK.of_seeA (F2 := [(2, .string s)]) dcΨ_ok (m := 20) (j := 20) (f := 23) (p := keeps 23) (lo := 0) (n := 22) (ts := [2]) rfl (dc_dr _ _) h
  have hc := CallOK.of_code noOK (f := 23) (fn := fn) (c := bodyOf 23) (args := [.int .i64 n]) (l := [.string s]) (H := []) f1 f2 (by rw [f3]; simp) (by rw [f3]; exact RowOK.code r) (.inr rfl) (by rw [f4]; rfl)
  exact PureOK.of_call hc (Gh.plain rfl)
theorem bs_app (a b : List UInt8) : bs (a ++ b) = bs a ++ bs b := ByteArray.ext (by simp [bs])
theorem dig_one : ∀ u : Nat, u < 10 → Lib.decDigits u = [UInt8.ofNat (48 + u)] := fun u h => by rw [Lib.decDigits]; simp [h]
theorem dc_small : ∀ u : Nat, u < 10 → (match callK (ctx noΦ) 20 0 23 [.int .i64 (Int.ofNat u)] [] (fun v _ => some v) with | some (.string s) => s.toList == [UInt8.ofNat (48 + u)] | _ => false) = true := by
  have : (List.range 10).all (fun u => match callK (ctx noΦ) 20 0 23 [.int .i64 (Int.ofNat u)] [] (fun v _ => some v) with | some (.string s) => s.toList == [UInt8.ofNat (48 + u)] | _ => false) = true := by kernel_rfl
  intro u h
  exact List.all_eq_true.1 this u (List.mem_range.2 h)
theorem dc_one {u : Nat} (h : u < 10) : callK (ctx noΦ) 20 0 23 [.int .i64 (Int.ofNat u)] [] (fun v _ => some v) = some (.string (bs [UInt8.ofNat (48 + u)])) := by
  have := dc_small u h
  split at this
  · rename_i s e
    rw [e, tl_eq (a := s) (b := bs [UInt8.ofNat (48 + u)]) (by
      rw [show (bs [UInt8.ofNat (48 + u)]).toList = [UInt8.ofNat (48 + u)] from Lib.toList_data _]; exact this)]
  · cases this
theorem dc_len (u : Nat) (h : u < 10000000000) : (Lib.decDigits u).length ≤ 10 := dec32 h
theorem itoS_nat (u : Nat) : itoS (Int.ofNat u) = bs (Lib.decDigits u) := by
  unfold itoS Lib.itoa
  rw [if_neg (by simp)]; rfl
theorem okLen_small {a b : ByteArray} (h : a.size + b.size ≤ 1000000) : okLen a b = true := by
  simp [okLen]; omega
theorem dc_nat (u : Nat) : u < 10000000000 → PureOK Tryz.prog 23 [.int .i64 (Int.ofNat u)] (.string (itoS (Int.ofNat u))) := by
  induction u using Nat.strongRecOn with
  | ind u ih =>
    intro hu
    by_cases h : u < 10
    · have := PureOK.of_run noOK (dc_one h) (Gh.plain rfl)
      rwa [itoS_nat, dig_one u h]
    · obtain ⟨k, rfl⟩ : ∃ k, u = k + 10 := ⟨u - 10, by omega⟩
      have e1 : IntKind.i64.wrap ((Int.ofNat (k + 10)).tdiv 10) = Int.ofNat ((k + 10) / 10) := w64_of (x := Int.ofNat ((k + 10) / 10)) (Int.natCast_nonneg _) (by simp; omega)
      have e2 : (Int.ofNat (k + 10)).tmod 10 = Int.ofNat ((k + 10) % 10) := rfl
      have p1 := ih ((k + 10) / 10) (by omega) (by omega)
      have p2 := ih ((k + 10) % 10) (by omega) (by omega)
      have hr := dc_big dcG itoS (Int.ofNat (k + 10)) (by simp; omega)
      rw [e1, e2] at hr
      have g1 : dcG (Int.ofNat ((k + 10) / 10)) = true := isPure_of p1 (gh_plains rfl)
      have g2 : dcG (Int.ofNat ((k + 10) % 10)) = true := isPure_of p2 (gh_plains rfl)
      have l1 := dc_len ((k + 10) / 10) (by omega)
      have l2 := dc_len ((k + 10) % 10) (by omega)
      have ok : okLen (itoS (Int.ofNat ((k + 10) / 10))) (itoS (Int.ofNat ((k + 10) % 10))) = true := okLen_small (by rw [itoS_nat, itoS_nat, bs_size, bs_size]; omega)
      rw [g1, g2, ok] at hr
      have e3 : itoS (Int.ofNat (k + 10)) = itoS (Int.ofNat ((k + 10) / 10)) ++ itoS (Int.ofNat ((k + 10) % 10)) := by
        rw [itoS_nat, itoS_nat, itoS_nat, dig_one ((k + 10) % 10) (by omega)]
        conv => lhs; rw [Lib.decDigits]
        rw [dif_neg h]
        exact bs_app _ _
      rw [e3]
      exact dc_pure hr
theorem decimalOK {n : Int} (h0 : -1000000000 ≤ n) (h1 : n ≤ 1000000000) : PureOK Tryz.prog 23 [.int .i64 n] (.string (itoS n)) := by
  cases n with
  | ofNat u => exact dc_nat u (by simp at h1; omega)
  | negSucc u =>
    have e : IntKind.i64.wrap (0 - .negSucc u) = Int.ofNat (u + 1) := by rw [IntKind.wrap_i64]; simp only [Int.negSucc_eq] at *; simp; omega
    have p := dc_nat (u + 1) (by simp only [Int.negSucc_eq] at h0; omega)
    have hr := dc_neg dcG itoS (.negSucc u) (Int.negSucc_lt_zero u)
    have l1 := dc_len (u + 1) (by simp only [Int.negSucc_eq] at h0; omega)
    rw [e, show dcG (Int.ofNat (u + 1)) = true from isPure_of p (gh_plains rfl), show okLen minS (itoS (Int.ofNat (u + 1))) = true from okLen_small (by rw [itoS_nat]; show 1 + (Lib.decDigits (u + 1)).length ≤ _; omega)] at hr
    have e3 : itoS (.negSucc u) = minS ++ itoS (Int.ofNat (u + 1)) := by
      rw [itoS_nat]
      have : Lib.itoa (.negSucc u) = 45 :: Lib.decDigits (u + 1) := by unfold Lib.itoa; rw [if_pos (Int.negSucc_lt_zero u)]; rfl
      unfold itoS
      rw [this]
      exact bs_app [45] _
    rw [e3]
    exact dc_pure hr
end Go.Proofs.YtgkicojmgokinaaGreatDoor.Ab
namespace Go.Proofs.YtgkicojmgokinaaGreatDoor.Ab
open Go Go.RowKit
set_option linter.unusedVariables false
set_option linter.unusedSimpArgs false
set_option maxRecDepth 100000
/-- Numbers whose digits are told. -/
def dcIn (n : Int) : Bool := decide (-1000000000 ≤ n) && decide (n ≤ 1000000000)
theorem dcIn_ok {n : Int} (h : dcIn n = true) : PureOK Tryz.prog 23 [.int .i64 n] (.string (itoS n)) := by
  simp only [dcIn, Bool.and_eq_true, decide_eq_true_eq] at h
  exact decimalOK h.1 h.2
noncomputable def nbΦ (E : Inst → Nat) (Pt : Inst → ByteArray) (Qo : ByteArray → Bool) (Qi : ByteArray → Inst) (Bd : Int → Bool) (Ds : Int → ByteArray) : Oracle := fun lo f args H => match f with
  | 8 => match args with
    | [] => some [(true, .bool true, H)]
    | _ => none
  | 9 => match args with
    | [.agg ⟨[.int .i64 op, .int .i64 rd, .int .i64 rs1, .int .i64 rs2, .int .i64 csr, .int .u32 imm, .bool aq, .bool rl]⟩] => some [(Nat.beq (E ⟨op, rd, rs1, rs2, csr, imm, aq, rl⟩) 0, .tuple #[.string (Pt ⟨op, rd, rs1, rs2, csr, imm, aq, rl⟩), .nilIface], H)]
    | _ => none
  | 12 => match args with
    | [.string s] => some [(ln s && Qo s, .tuple #[instV (Qi s), .nilIface], H), (ln s && !Qo s, .tuple #[instV noInst, errV 0], H)]
    | _ => none
  | 23 => match args with
    | [.int .i64 n] => some [(Bd n, .string (Ds n), H)]
    | _ => none
  | _ => none
theorem nbΦ_ok : CtxOK Tryz.prog (ctx (nbΦ encE textS parB parI dcIn itoS)) := ctxOK fun lo f args H l v H' h hm => by
  unfold nbΦ at h
  split at h
  · split at h
    · cases h
      simp only [List.mem_cons, List.not_mem_nil, or_false, Prod.mk.injEq] at hm
      obtain ⟨hc, rfl, rfl⟩ := hm
      exact ⟨firstOK.call (fun a h => by cases h) lo H', rfl⟩
    · cases h
  · split at h
    · cases h
      simp only [List.mem_cons, List.not_mem_nil, or_false, Prod.mk.injEq] at hm
      obtain ⟨hc, rfl, rfl⟩ := hm
      exact ⟨print0 hc.symm lo H', rfl⟩
    · cases h
  · split at h
    · cases h
      simp only [List.mem_cons, List.not_mem_nil, or_false, Prod.mk.injEq] at hm
      rcases hm with ⟨hc, rfl, rfl⟩ | ⟨hc, rfl, rfl⟩
      · exact ⟨par1 hc.symm lo H', rfl⟩
      · exact ⟨par2 hc.symm lo H', rfl⟩
    · cases h
  · split at h
    · cases h
      simp only [List.mem_cons, List.not_mem_nil, or_false, Prod.mk.injEq] at hm
      obtain ⟨hc, rfl, rfl⟩ := hm
      exact ⟨(dcIn_ok hc.symm).call (gh_plains rfl) lo H', rfl⟩
    · cases h
  · cases h
def nn (a : Int) : Int := IntKind.i64.wrap ((IntKind.i64.wrap (a.tmod 2048 + 2048)).tmod 2048 - 1024)
def nu (n : Int) : Int := IntKind.u32.wrap n
def nh (n : Int) : Int := IntKind.u32.wrap (IntKind.u32.wrap n * 2 ^ min (Int.toNat 12) IntKind.u32.bits)
def nd (n : Int) : Int := IntKind.i64.wrap ((nh n).fdiv (2 ^ min (Int.toNat 12) IntKind.u32.bits))
def nm (n : Int) : Int := bif true then if IntKind.i64.wrap (0 - n) > n then IntKind.i64.wrap (0 - n) else n else if IntKind.i64.wrap (0 - n) < n then IntKind.i64.wrap (0 - n) else n
def num1 (n : Int) : Inst := ⟨19, 31, 10, 0, 0, nu n, false, false⟩
def num2 (n : Int) : Inst := ⟨1, 1, 0, 0, 0, nh n, false, false⟩
def addiS : ByteArray := ⟨#[97, 100, 100, 105, 32, 120, 51, 49, 44, 32, 120, 49, 48, 44, 32]⟩
def addiP : ByteArray := ⟨#[97, 100, 100, 105, 32, 120, 51, 49, 44, 32, 120, 49, 48, 44, 32, 43]⟩
def addi0 : ByteArray := ⟨#[97, 100, 100, 105, 32, 120, 51, 49, 44, 32, 120, 49, 48, 44, 32, 48]⟩
def luiS : ByteArray := ⟨#[108, 117, 105, 32, 120, 49, 44, 32]⟩
def pars (Qo : ByteArray → Bool) (s : ByteArray) (K : Bool → Option Value) : Option Value := bif ln s && Qo s then K true else bif ln s && !Qo s then K false else none
def dcat (Bd : Int → Bool) (Ds : Int → ByteArray) (p : ByteArray) (n : Int) (K : ByteArray → Option Value) : Option Value := bif Bd n then bif okLen p (Ds n) then K (p ++ Ds n) else none else none
def fbs (b : Bool) (K : Option Value) : Option Value := bif b then K else some (.bool false)
def numT (E : Inst → Nat) (Pt : Inst → ByteArray) (Qo : ByteArray → Bool) (Qi : ByteArray → Inst) (Bd : Int → Bool) (Ds : Int → ByteArray) (n : Int) : Option Value :=
  bif Nat.beq (E (num1 n)) 0 then pars Qo (Pt (num1 n)) fun f => dcat Bd Ds addiS n fun want => bif Nat.beq (E (num2 n)) 0 then
    dcat Bd Ds addiP (nm n) fun sp => pars Qo sp fun h => dcat Bd Ds addi0 (nm n) fun sz => pars Qo sz fun k =>
      bif f then fbs ((Pt (num1 n)).toList == want.toList) (fbs (IntKind.i32.wrap (Qi (Pt (num1 n))).imm == IntKind.i32.wrap n) (dcat Bd Ds luiS (nd n) fun lu => fbs ((Pt (num2 n)).toList == lu.toList)
        (bif h then some (.bool false) else bif k then some (.bool false) else some (.bool true)))) else some (.bool false)
  else none else none
theorem num_run (E : Inst → Nat) (Pt : Inst → ByteArray) (Qo : ByteArray → Bool) (Qi : ByteArray → Inst) (Bd : Int → Bool) (Ds : Int → ByteArray) (a : Int) : callK (ctx (nbΦ E Pt Qo Qi Bd Ds)) 20 0 6 [.int .i64 a] [] (fun v _ => some v) = numT E Pt Qo Qi Bd Ds (nn a) := by kernel_rfl
end Go.Proofs.YtgkicojmgokinaaGreatDoor.Ab
namespace Go.Proofs.YtgkicojmgokinaaGreatDoor.Ab
open Go Go.RowKit
set_option maxRecDepth 100000
theorem enc_all : (List.range 2048).all (fun k => Nat.beq (encE (num1 ((k : Int) - 1024))) 0 && Nat.beq (encE (num2 ((k : Int) - 1024))) 0) = true := by kernel_rfl
theorem enc_num {n : Int} (h0 : -1024 ≤ n) (h1 : n ≤ 1023) : Nat.beq (encE (num1 n)) 0 = true ∧ Nat.beq (encE (num2 n)) 0 = true := by
  have := List.all_eq_true.1 enc_all (n + 1024).toNat (List.mem_range.2 (by omega))
  rw [show (((n + 1024).toNat : Nat) : Int) - 1024 = n by omega, Bool.and_eq_true] at this
  exact this
end Go.Proofs.YtgkicojmgokinaaGreatDoor.Ab
namespace Go.Proofs.YtgkicojmgokinaaGreatDoor.Ab
open Go Go.RowKit
set_option linter.unusedVariables false
set_option linter.unusedSimpArgs false
set_option maxRecDepth 100000
def addiL : List UInt8 := [97, 100, 100, 105, 32, 120, 51, 49, 44, 32, 120, 49, 48, 44, 32]
def luiL : List UInt8 := [108, 117, 105, 32, 120, 49, 44, 32]
theorem x31 : xL 31 = [120, 51, 49] := by kernel_rfl
theorem x10 : xL 10 = [120, 49, 48] := by kernel_rfl
theorem x1 : xL 1 = [120, 49] := by kernel_rfl
theorem nu_sgn {n : Int} (h0 : -1024 ≤ n) (h1 : n ≤ 1023) : IntKind.i64.wrap (IntKind.i32.wrap (nu n)) = n := by
  unfold nu; rw [IntKind.wrap_u32, IntKind.wrap_i32, IntKind.wrap_i64]; omega
theorem text1 {n : Int} (h0 : -1024 ≤ n) (h1 : n ≤ 1023) : textL (num1 n) = addiL ++ Lib.itoa n := by
  have e : textL (num1 n) = [97, 100, 100, 105, 32] ++ Lib.join [xL 31, xL 10, sgL (nu n)] [44, 32] := rfl
  rw [e, join_cons, join_cons, x31, x10]
  show _ = _ ++ Lib.itoa n
  unfold sgL
  rw [nu_sgn h0 h1]
  simp [Lib.join, addiL]
theorem nh_eq (n : Int) : nh n = n % 1048576 * 4096 := by
  have e : (2 : Int) ^ min (Int.toNat 12) IntKind.u32.bits = 4096 := by decide
  unfold nh; rw [e, IntKind.wrap_u32, IntKind.wrap_u32]; omega
theorem nd_eq (n : Int) : nd n = n % 1048576 := by
  have e : (2 : Int) ^ min (Int.toNat 12) IntKind.u32.bits = 4096 := by decide
  unfold nd; rw [e, nh_eq, Int.fdiv_eq_ediv_of_nonneg _ (by decide), IntKind.wrap_i64]; omega
theorem text2 (n : Int) : textL (num2 n) = luiL ++ Lib.itoa (nd n) := by
  have e : textL (num2 n) = [108, 117, 105, 32] ++ Lib.join [xL 1, plL ((nh n).fdiv 4096)] [44, 32] := rfl
  rw [e, join_cons, x1, nd_eq, nh_eq, Int.fdiv_eq_ediv_of_nonneg _ (by decide)]
  have h : (0 : Int) ≤ n % 1048576 * 4096 / 4096 ∧ n % 1048576 * 4096 / 4096 < 4294967296 := by omega
  rw [plL_eq h, show n % 1048576 * 4096 / 4096 = n % 1048576 by omega]
  unfold Lib.itoa
  rw [if_neg (by omega)]
  simp [Lib.join, luiL]
/-! ### A needless sign, a needless nought -/
theorem name_addi : ∀ k : Nat, k < 69 → ∀ aq rl : Bool, nameM ((k : Int) + 1) aq rl = [97, 100, 100, 105] → k = 18 ∧ aq = false ∧ rl = false := by decide +kernel
theorem not_text {T : List UInt8} (h44 : (44 : UInt8) ∉ T) (hT : ∀ m : Int, T ≠ Lib.itoa m) : parB (bs (addiL ++ T)) = false := by
  cases hp : parB (bs (addiL ++ T)) with
  | false => rfl
  | true =>
    exfalso
    obtain ⟨he, ht⟩ := par_inv hp
    generalize parI (bs (addiL ++ T)) = i at he ht
    have g := enc_good he
    obtain ⟨n1, n2, n3⟩ := name_ok (aq := i.aq) (rl := i.rl) g.fits.op g.aq0
    have ht : textL i = addiL ++ T := by
      have := congrArg (fun b => b.data.toList) ht
      exact this
    have e2 : addiL ++ T = [97, 100, 100, 105] ++ 32 :: Lib.join [[120, 51, 49], [120, 49, 48], T] [44, 32] := by simp [addiL, join_cons]; simp [Lib.join]
    have hc2 : Lib.cut (addiL ++ T) [32] = ([97, 100, 100, 105], Lib.join [[120, 51, 49], [120, 49, 48], T] [44, 32], true) := by rw [e2]; exact cut_hit 32 _ _ (by decide)
    have tx : textL i = nameM i.op i.aq i.rl ++ (bif partsN i then [] else 32 :: Lib.join (partsL i) [44, 32]) := rfl
    rw [← ht, tx] at hc2
    cases hn : partsN i with
    | true =>
      rw [hn, cond_true, List.append_nil, cut_miss 32 _ n1] at hc2
      exact absurd (congrArg (fun x => x.2.2) hc2) (by simp)
    | false =>
      rw [hn, cond_false, cut_hit 32 _ _ n1] at hc2
      have a1 : nameM i.op i.aq i.rl = [97, 100, 100, 105] := congrArg (fun x => x.1) hc2
      have a2 : Lib.join (partsL i) [44, 32] = Lib.join [[120, 51, 49], [120, 49, 48], T] [44, 32] := congrArg (fun x => x.2.1) hc2
      have hne : partsL i ≠ [] := fun h => by unfold partsN at hn; rw [h] at hn; cases hn
      have b1 := splitL_join hne (parts_no i (.inl rfl))
      have b2 : splitL (Lib.join [[120, 51, 49], [120, 49, 48], T] [44, 32]) [44, 32] = [[120, 51, 49], [120, 49, 48], T] := splitL_join (by simp) (fun y hy => by
        simp only [List.mem_cons, List.not_mem_nil, or_false] at hy
        rcases hy with rfl | rfl | rfl
        · decide
        · decide
        · exact h44)
      rw [a2, b2] at b1
      have ho := g.fits.op
      have hop : i.op = 19 := by
        have := ops (p := fun op => ∀ aq rl : Bool, nameM op aq rl = [97, 100, 100, 105] → op = 19) (fun k hk aq rl h => by have := (name_addi k hk aq rl h).1; omega) ho
        exact this _ _ a1
      have hs : partsL i = [xL i.rd, xL i.rs1, sgL i.imm] := by
        unfold partsL; rw [hop]; rfl
      rw [hs] at b1
      simp only [List.cons.injEq] at b1
      exact hT _ b1.2.2.1
theorem itoa_head (m : Int) : ∃ c r, Lib.itoa m = c :: r ∧ (c.toNat = 45 ∨ (48 ≤ c.toNat ∧ c.toNat ≤ 57)) := by
  unfold Lib.itoa
  split
  · exact ⟨_, _, rfl, .inl rfl⟩
  · cases h : Lib.decDigits m.toNat with
    | nil => exact absurd h (digs_ne _)
    | cons c r => exact ⟨c, r, rfl, .inr (digs m.toNat c (by rw [h]; exact List.mem_cons_self ..))⟩
theorem plus_not (k : Nat) (m : Int) : (43 :: Lib.decDigits k : List UInt8) ≠ Lib.itoa m := fun h => by
  obtain ⟨c, r, h1, h2⟩ := itoa_head m
  rw [h1] at h
  have : c = 43 := (List.cons.inj h).1.symm
  subst this
  revert h2; decide
theorem decFrom_zero (l : List UInt8) : Lib.decFrom 0 (48 :: l) = Lib.decFrom 0 l := by
  simp [Lib.decFrom, Lib.digitVal]
theorem zero_not (k : Nat) (m : Int) : (48 :: Lib.decDigits k : List UInt8) ≠ Lib.itoa m := fun h => by
  unfold Lib.itoa at h
  split at h
  · exact absurd (List.cons.inj h).1 (by decide)
  · have e := congrArg (Lib.decFrom 0) h
    rw [decFrom_zero, decFrom_dec, decFrom_dec] at e
    have e : k = m.toNat := Option.some.inj e
    rw [← e] at h
    have := congrArg List.length h
    simp at this
/-! ### The law -/
theorem nn_rng (a : Int) : -1024 ≤ nn a ∧ nn a ≤ 1023 := by
  unfold nn
  have t1 := Int.tmod_lt_of_pos a (show (0 : Int) < 2048 by decide)
  have t2 := tmod_gt a (show (0 : Int) < 2048 by decide)
  rw [IntKind.wrap_i64, IntKind.wrap_i64]
  have e : (a.tmod 2048 + 2048 + 2 ^ 63) % 2 ^ 64 - 2 ^ 63 = a.tmod 2048 + 2048 := by omega
  generalize hq : a.tmod 2048 = q at *
  have hw : 0 ≤ q + 2048 ∧ q + 2048 < 4096 := by omega
  have t3 := Int.tmod_lt_of_pos (q + 2048) (show (0 : Int) < 2048 by decide)
  have t4 := Int.tmod_nonneg 2048 (show (0 : Int) ≤ q + 2048 by omega)
  have e2 : (q + 2048 + 9223372036854775808) % 18446744073709551616 - 9223372036854775808 = q + 2048 := by omega
  first | rw [e2] | skip
  omega
theorem nm_nat {n : Int} (h0 : -1024 ≤ n) (h1 : n ≤ 1023) : ∃ k : Nat, nm n = Int.ofNat k ∧ k ≤ 1024 := by
  have e : IntKind.i64.wrap (0 - n) = -n := by rw [IntKind.wrap_i64]; omega
  unfold nm
  rw [cond_true, e]
  split
  · exact ⟨(-n).toNat, by simp; omega, by omega⟩
  · exact ⟨n.toNat, by simp; omega, by omega⟩
theorem pars_true {Q : ByteArray → Bool} {s : ByteArray} {K : Bool → Option Value} (h1 : ln s = true) (h2 : Q s = true) : pars Q s K = K true := by unfold pars; rw [h1, h2]; rfl
theorem pars_false {Q : ByteArray → Bool} {s : ByteArray} {K : Bool → Option Value} (h1 : ln s = true) (h2 : Q s = false) : pars Q s K = K false := by unfold pars; rw [h1, h2]; rfl
theorem dcat_eq {p : ByteArray} {n : Int} {K : ByteArray → Option Value} (h1 : dcIn n = true) (h2 : okLen p (itoS n) = true) : dcat dcIn itoS p n K = K (p ++ itoS n) := by unfold dcat; rw [h1, h2]; rfl
theorem num_tree {n : Int} (h0 : -1024 ≤ n) (h1 : n ≤ 1023) : numT encE textS parB parI dcIn itoS n = some (.bool true) := by
  obtain ⟨c1, c2⟩ := enc_num h0 h1
  have e1 : encE (num1 n) = 0 := Nat.eq_of_beq_eq_true c1
  have hw : (num1 n).wf := by
    show 0 ≤ nu n ∧ nu n < 4294967296
    unfold nu; rw [IntKind.wrap_u32]; omega
  obtain ⟨p1, p2⟩ := par_text e1 hw
  obtain ⟨k, hk, hk1⟩ := nm_nat h0 h1
  have t1 : textS (num1 n) = addiS ++ itoS n := by
    show bs (textL (num1 n)) = _
    rw [text1 h0 h1, bs_app]; rfl
  have t2 : textS (num2 n) = luiS ++ itoS (nd n) := by
    show bs (textL (num2 n)) = _
    rw [text2, bs_app]; rfl
  have len : ∀ m : Int, -10000000 ≤ m → m ≤ 10000000 → (itoS m).size ≤ 11 := fun m a b => by
    show (Lib.itoa m).length ≤ 11
    unfold Lib.itoa
    split
    · have := dec32 (u := m.natAbs) (by omega); simp; omega
    · have := dec32 (u := m.toNat) (by omega); omega
  have d1 : dcIn n = true := by simp only [dcIn, Bool.and_eq_true, decide_eq_true_eq]; omega
  have d2 : dcIn (nm n) = true := by rw [hk]; simp only [dcIn, Bool.and_eq_true, decide_eq_true_eq]; simp; omega
  have ndr : 0 ≤ nd n ∧ nd n < 1048576 := by rw [nd_eq]; omega
  have d3 : dcIn (nd n) = true := by simp only [dcIn, Bool.and_eq_true, decide_eq_true_eq]; omega
  have l1 := len n (by omega) (by omega)
  have l2 := len (nm n) (by rw [hk]; simp) (by rw [hk]; simp; omega)
  have l3 := len (nd n) (by omega) (by omega)
  have z1 : addiS.size = 15 := rfl
  have z2 : addiP.size = 16 := rfl
  have z3 : addi0.size = 16 := rfl
  have z4 : luiS.size = 8 := rfl
  have o1 : okLen addiS (itoS n) = true := okLen_small (by omega)
  have o2 : okLen addiP (itoS (nm n)) = true := okLen_small (by omega)
  have o3 : okLen addi0 (itoS (nm n)) = true := okLen_small (by omega)
  have o4 : okLen luiS (itoS (nd n)) = true := okLen_small (by omega)
  have h44 : ∀ c : UInt8, c ≠ 44 → (44 : UInt8) ∉ (c :: Lib.decDigits k : List UInt8) := fun c hc h => by
    rcases List.mem_cons.1 h with h | h
    · exact hc h.symm
    · exact dec_no (c := 44) (by decide) k h
  have q1 : parB (addiP ++ itoS (nm n)) = false := by
    have := not_text (T := 43 :: Lib.decDigits k) (h44 _ (by decide)) (plus_not k)
    rw [hk, itoS_nat]
    rw [show addiL ++ 43 :: Lib.decDigits k = (addiL ++ [43]) ++ Lib.decDigits k by simp, bs_app] at this
    exact this
  have q2 : parB (addi0 ++ itoS (nm n)) = false := by
    have := not_text (T := 48 :: Lib.decDigits k) (h44 _ (by decide)) (zero_not k)
    rw [hk, itoS_nat]
    rw [show addiL ++ 48 :: Lib.decDigits k = (addiL ++ [48]) ++ Lib.decDigits k by simp, bs_app] at this
    exact this
  have sz : ∀ a b : ByteArray, (a ++ b).size = a.size + b.size := fun a b => ByteArray.size_append
  have s1 : ln (textS (num1 n)) = true := ln_of (by rw [t1, sz]; omega)
  have s2 : ln (addiP ++ itoS (nm n)) = true := ln_of (by rw [sz]; omega)
  have s3 : ln (addi0 ++ itoS (nm n)) = true := ln_of (by rw [sz]; omega)
  unfold numT
  rw [c1, cond_true, pars_true s1 p1, dcat_eq d1 o1, c2, cond_true, dcat_eq d2 o2, pars_false s2 q1, dcat_eq d2 o3, pars_false s3 q2, cond_true, p2, t1]
  have i1 : (IntKind.i32.wrap (num1 n).imm == IntKind.i32.wrap n) = true := by
    rw [beq_iff_eq]
    show IntKind.i32.wrap (nu n) = _
    unfold nu; rw [IntKind.wrap_u32, IntKind.wrap_i32, IntKind.wrap_i32]; omega
  rw [beq_self_eq_true, i1, dcat_eq d3 o4, t2, beq_self_eq_true]
  rfl
theorem asmNumbersOK (a : Int) : PureOK Tryz.prog 6 [.int .i64 a] (.bool true) :=
  PureOK.of_run nbΦ_ok ((num_run encE textS parB parI dcIn itoS a).trans (num_tree (nn_rng a).1 (nn_rng a).2)) (Gh.plain rfl)
end Go.Proofs.YtgkicojmgokinaaGreatDoor.Ab
