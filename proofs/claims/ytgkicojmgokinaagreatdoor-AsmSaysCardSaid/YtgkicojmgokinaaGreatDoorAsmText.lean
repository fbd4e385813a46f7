/- Trimmed: AsmText -/
import Derived.Test.YtgkicojmgokinaaGreatDoorAsmEncode
import Derived.Lib.ItoaLen
namespace Go.Proofs.YtgkicojmgokinaaGreatDoor.Ab
open Go Go.RowKit
set_option linter.unusedVariables false
set_option linter.unusedSimpArgs false
set_option maxRecDepth 100000
def in64 (n : Int) : Bool := decide (-9223372036854775808 ≤ n) && decide (n ≤ 9223372036854775807)
def inU64 (n : Int) : Bool := decide (0 ≤ n) && decide (n < 18446744073709551616)
theorem itoaOK' {n : Int} (h : in64 n = true) : PureOK Tryz.prog 34 [.int .i64 n] (.string (bs (Lib.itoa n))) := by
  simp only [in64, Bool.and_eq_true, decide_eq_true_eq] at h
  exact itoaOK n h.1 h.2
theorem formatOK' {n : Int} (h : inU64 n = true) : PureOK Tryz.prog 91 [.int .u64 n, .int .i64 10] (.string (bs (Lib.decDigits n.toNat))) := by
  simp only [inU64, Bool.and_eq_true, decide_eq_true_eq] at h
  have := formatOK n.toNat (by omega)
  rwa [show ((n.toNat : Nat) : Int) = n by omega] at this
noncomputable def numΦ (I D : Int → ByteArray) : Oracle := fun lo f args H => match f with
  | 34 => match args with
    | [.int .i64 n] => some [(in64 n, .string (I n), H)]
    | _ => none
  | 91 => match args with
    | [.int .u64 n, .int .i64 10] => some [(inU64 n, .string (D n), H)]
    | _ => none
  | _ => none
theorem numΦ_ok  : CtxOK Tryz.prog (ctx (numΦ (fun n => bs (Lib.itoa n)) (fun n => bs (Lib.decDigits n.toNat)))) := ctxOK fun lo f args H l v H' h hm => by
  unfold numΦ at h
  split at h
  · split at h
    · cases h
      simp only [List.mem_cons, List.not_mem_nil, or_false, Prod.mk.injEq] at hm
      obtain ⟨hc, rfl, rfl⟩ := hm
      exact ⟨(itoaOK' hc.symm).call (gh_plains rfl) lo H', rfl⟩
    · cases h
  · split at h
    · cases h
      simp only [List.mem_cons, List.not_mem_nil, or_false, Prod.mk.injEq] at hm
      obtain ⟨hc, rfl, rfl⟩ := hm
      exact ⟨(formatOK' hc.symm).call (gh_plains rfl) lo H', rfl⟩
    · cases h
  · cases h
def okLen (a b : ByteArray) : Bool := decide (a.size + b.size < 4611686018427387904)
def cx : ByteArray := ⟨⟨[120]⟩⟩
def c28 : ByteArray := ⟨⟨[40]⟩⟩
def c29 : ByteArray := ⟨⟨[41]⟩⟩
theorem x_run (I : Int → ByteArray) (D : Int → ByteArray) (n : Int) : callK (ctx (numΦ I D)) 20 0 58 [.int .i64 n] [] (fun v _ => some v) = bif in64 n then (bif okLen cx (I n) then some (.string (cx ++ I n)) else none) else none := by kernel_rfl
theorem lies_run (I : Int → ByteArray) (D : Int → ByteArray) (n : Int) : callK (ctx (numΦ I D)) 20 0 57 [.int .i64 n] [] (fun v _ => some v) =
    bif in64 n then (bif okLen cx (I n) then (bif okLen c28 (cx ++ I n) then (bif okLen (c28 ++ (cx ++ I n)) c29 then some (.string ((c28 ++ (cx ++ I n)) ++ c29)) else none) else none) else none) else none := by kernel_rfl
theorem signed_run (I : Int → ByteArray) (D : Int → ByteArray) (w : Int) : callK (ctx (numΦ I D)) 20 0 60 [.int .u32 w] [] (fun v _ => some v) = bif in64 (IntKind.i64.wrap (IntKind.i32.wrap w)) then some (.string (I (IntKind.i64.wrap (IntKind.i32.wrap w)))) else none := by kernel_rfl
theorem plain_run (I : Int → ByteArray) (D : Int → ByteArray) (w : Int) : callK (ctx (numΦ I D)) 20 0 59 [.int .u32 w] [] (fun v _ => some v) = bif inU64 (IntKind.u64.wrap w) then some (.string (D (IntKind.u64.wrap w))) else none := by kernel_rfl
def hexs : ByteArray := ⟨⟨[48, 49, 50, 51, 52, 53, 54, 55, 56, 57, 97, 98, 99, 100, 101, 102]⟩⟩
def hg (n : Int) : Bool := decide (0 ≤ n) && Nat.blt n.toNat 16
def hc (n : Int) : Value := .int .u8 (byteAt hexs n.toNat)
theorem hex3_run (Bt : Int → Int → Int → Int) (w : Int) : callK (ctx (bitsΦ Bt)) 20 0 47 [.int .u32 w, .int .i64 3] [] (fun v _ => some v) =
    bif hg (Bt w 8 4) then (bif hg (Bt w 4 4) then (bif hg (Bt w 0 4) then (bif [hc (Bt w 8 4), hc (Bt w 4 4), hc (Bt w 0 4)].all isByte then some (.string ⟨⟨[hc (Bt w 8 4), hc (Bt w 4 4), hc (Bt w 0 4)].map byteOf⟩⟩) else none) else none) else none) else none := by kernel_rfl
def xL (n : Int) : List UInt8 := 120 :: Lib.itoa n
def liL (n : Int) : List UInt8 := 40 :: (xL n ++ [41])
def sgL (w : Int) : List UInt8 := Lib.itoa (IntKind.i64.wrap (IntKind.i32.wrap w))
def plL (w : Int) : List UInt8 := Lib.decDigits (IntKind.u64.wrap w).toNat
def hd (n : Int) : UInt8 := byteOf (hc n)
def hxL (w : Int) : List UInt8 := [hd (bitV w 8 4), hd (bitV w 4 4), hd (bitV w 0 4)]
theorem in64_wrap (n : Int) : in64 (IntKind.i64.wrap n) = true := by
  simp only [in64, Bool.and_eq_true, decide_eq_true_eq]
  rw [IntKind.wrap_i64]; omega
theorem inU64_wrap (n : Int) : inU64 (IntKind.u64.wrap n) = true := by
  simp only [inU64, Bool.and_eq_true, decide_eq_true_eq]
  rw [IntKind.wrap_u64]; omega
theorem itoa_len {n : Int} (h : in64 n = true) : (Lib.itoa n).length ≤ 21 := by
  simp only [in64, Bool.and_eq_true, decide_eq_true_eq] at h
  exact Lib.itoa_length_le n h.1 h.2
theorem okLen_of {a b : List UInt8} (h : a.length + b.length < 1000000) : okLen (bs a) (bs b) = true := by
  simp only [okLen, decide_eq_true_eq]
  show a.length + b.length < _
  omega
theorem xOK {n : Int} (h : in64 n = true) : PureOK Tryz.prog 58 [.int .i64 n] (.string (bs (xL n))) := by
  have r := x_run (fun n => bs (Lib.itoa n)) (fun n => bs (Lib.decDigits n.toNat)) n
  have l := itoa_len h
  rw [h, cond_true, show okLen cx (bs (Lib.itoa n)) = true from okLen_of (by simp; omega), cond_true] at r
  exact PureOK.of_run numΦ_ok r (Gh.plain rfl)
theorem liesOK {n : Int} (h : in64 n = true) : PureOK Tryz.prog 57 [.int .i64 n] (.string (bs (liL n))) := by
  have r := lies_run (fun n => bs (Lib.itoa n)) (fun n => bs (Lib.decDigits n.toNat)) n
  have l := itoa_len h
  rw [h, cond_true, show okLen cx (bs (Lib.itoa n)) = true from okLen_of (by simp; omega), cond_true, show okLen c28 (cx ++ bs (Lib.itoa n)) = true from okLen_of (a := [40]) (b := 120 :: Lib.itoa n) (by simp; omega), cond_true,
    show okLen (c28 ++ (cx ++ bs (Lib.itoa n))) c29 = true from okLen_of (a := 40 :: 120 :: Lib.itoa n) (b := [41]) (by simp; omega), cond_true] at r
  exact PureOK.of_run numΦ_ok r (Gh.plain rfl)
theorem signedOK (w : Int) : PureOK Tryz.prog 60 [.int .u32 w] (.string (bs (sgL w))) := by
  have r := signed_run (fun n => bs (Lib.itoa n)) (fun n => bs (Lib.decDigits n.toNat)) w
  rw [in64_wrap, cond_true] at r
  exact PureOK.of_run numΦ_ok r (Gh.plain rfl)
theorem plainOK (w : Int) : PureOK Tryz.prog 59 [.int .u32 w] (.string (bs (plL w))) := by
  have r := plain_run (fun n => bs (Lib.itoa n)) (fun n => bs (Lib.decDigits n.toNat)) w
  rw [inU64_wrap, cond_true] at r
  exact PureOK.of_run numΦ_ok r (Gh.plain rfl)
theorem bit4 (x lo : Int) : 0 ≤ bitV x lo 4 ∧ bitV x lo 4 < 16 := by
  unfold bitV
  have e : (2 ^ (4 : Int).toNat - 1 : Int) = 15 := by decide
  rw [e]
  have h : bits .and .u32 (x.fdiv (2 ^ lo.toNat)) 15 = IntKind.u32.wrap ((BitVec.ofInt 32 (x.fdiv (2 ^ lo.toNat)) &&& 15#32).toNat : Int) := rfl
  rw [h, BitVec.toNat_and, show (15#32).toNat = 2 ^ 4 - 1 by decide, Nat.and_two_pow_sub_one_eq_mod, IntKind.wrap_u32]
  omega
theorem hg_of {n : Int} (h : 0 ≤ n ∧ n < 16) : hg n = true := by
  simp only [hg, Bool.and_eq_true, decide_eq_true_eq]
  exact ⟨h.1, Nat.ble_eq_true_of_le (by show n.toNat + 1 ≤ 16; omega)⟩
theorem hc_all : ∀ n : Nat, n < 16 → isByte (hc n) = true := by decide
theorem hc_byte {n : Int} (h : 0 ≤ n ∧ n < 16) : isByte (hc n) = true := by
  have := hc_all n.toNat (by omega)
  rwa [show ((n.toNat : Nat) : Int) = n by omega] at this
theorem hex3OK (w : Int) : PureOK Tryz.prog 47 [.int .u32 w, .int .i64 3] (.string (bs (hxL w))) := by
  have r := hex3_run bitV w
  rw [hg_of (bit4 w 8), hg_of (bit4 w 4), hg_of (bit4 w 0), cond_true, cond_true, cond_true, show [hc (bitV w 8 4), hc (bitV w 4 4), hc (bitV w 0 4)].all isByte = true by simp [hc_byte (bit4 w 8), hc_byte (bit4 w 4), hc_byte (bit4 w 0)], cond_true] at r
  exact PureOK.of_run bitsΦ_ok r (Gh.plain rfl)
end Go.Proofs.YtgkicojmgokinaaGreatDoor.Ab
