/- Trimmed: AsmSayTok -/
import Derived.Test.YtgkicojmgokinaaGreatDoorAsmSayPar2
import Derived.Test.YtgkicojmgokinaaGreatDoorAsmTrip
namespace Go.Proofs.YtgkicojmgokinaaGreatDoor.Ab
open Go Go.RowKit
set_option linter.unusedVariables false
set_option linter.unusedSimpArgs false
set_option maxRecDepth 100000
theorem dgL_snoc (base : Int) (c : UInt8) : ∀ (l : List UInt8) (n : Int), dgL base (l ++ [c]) n = match dgL base l n with
    | none => none
    | some m => bif dgX base m (dgV (c.toNat : Int)) then none else some (dgS base m (dgV (c.toNat : Int)))
  | [], n => rfl
  | a :: l, n => by
    show (bif dgX base n (dgV (a.toNat : Int)) then none else dgL base (l ++ [c]) (dgS base n (dgV (a.toNat : Int)))) = _
    rw [dgL_snoc base c l]
    show _ = match (bif dgX base n (dgV (a.toNat : Int)) then none else dgL base l (dgS base n (dgV (a.toNat : Int)))) with
      | none => none
      | some m => _
    cases dgX base n (dgV (a.toNat : Int)) <;> rfl
theorem lim10 : ∀ d : Nat, d < 10 → IntKind.i64.wrap ((IntKind.i64.wrap (-9223372036854775808 + (d : Int))).tdiv 10) < -900000000000000000 := by decide
theorem dgV_dig : ∀ d : Nat, d < 10 → dgV ((UInt8.ofNat (48 + d)).toNat : Int) = (d : Int) := by decide
theorem dgX_10 {n : Int} {d : Nat} (hd : d < 10) (h0 : n ≤ 0) (h1 : -1000000000000 ≤ n) : dgX 10 n (d : Int) = false := by
  have := lim10 d hd
  unfold dgX
  rw [decide_eq_false (by omega), decide_eq_false (by omega), decide_eq_false (by omega)]
  rfl
theorem dgS_10 {n : Int} {d : Nat} (hd : d < 10) (h0 : n ≤ 0) (h1 : -1000000000000 ≤ n) : dgS 10 n (d : Int) = n * 10 - d := by
  unfold dgS
  have e : IntKind.i64.wrap (n * 10) = n * 10 := by rw [IntKind.wrap_i64]; omega
  rw [e, IntKind.wrap_i64]; omega
theorem dg10 (u : Nat) : u < 1000000000000 → dgL 10 (Lib.decDigits u) 0 = some (-(u : Int)) := by
  induction u using Nat.strongRecOn with
  | _ u ih =>
    intro hu
    by_cases h : u < 10
    · rw [Lib.decDigits, dif_pos h]
      show (bif dgX 10 0 (dgV ((UInt8.ofNat (48 + u)).toNat : Int)) then none else some (dgS 10 0 (dgV ((UInt8.ofNat (48 + u)).toNat : Int)))) = _
      rw [dgV_dig u h, dgX_10 h (by decide) (by decide), cond_false, dgS_10 h (by decide) (by decide)]
      congr 1; omega
    · rw [Lib.decDigits, dif_neg h, dgL_snoc, ih (u / 10) (by omega) (by omega)]
      have hd : u % 10 < 10 := Nat.mod_lt _ (by decide)
      simp only
      rw [dgV_dig _ hd, dgX_10 hd (by omega) (by omega), cond_false, dgS_10 hd (by omega) (by omega)]
      congr 1; omega
theorem dec_ne (u : Nat) : Lib.decDigits u ≠ [] := by
  rw [Lib.decDigits]
  split <;> simp
theorem dec_cons (u : Nat) : ∃ c r, Lib.decDigits u = c :: r := by
  cases h : Lib.decDigits u with
  | nil => exact absurd h (dec_ne u)
  | cons c r => exact ⟨c, r, rfl⟩
theorem digF_dec {u : Nat} (hu : u < 1000000000000) : digF 10 (Lib.decDigits u) = ((u : Int), true) := by
  obtain ⟨c, r, e⟩ := dec_cons u
  have hc := digs u c (by rw [e]; simp)
  have hh : ((Lib.decDigits u).head? == some 45) = false := by
    rw [e]
    show (some c == some (45 : UInt8)) = false
    rw [beq_eq_false_iff_ne]
    intro h
    injection h with h
    subst h
    exact absurd hc.1 (by decide)
  have hi : (Lib.decDigits u).isEmpty = false := by rw [e]; rfl
  unfold digF
  rw [hh]
  simp only [cond_false]
  rw [dg10 u hu]
  simp only [hi, cond_false, Bool.not_false, Bool.true_and]
  rw [show ((-(u : Int)) == -9223372036854775808) = false from beq_eq_false_iff_ne.2 (by omega), cond_false]
  congr 1
  rw [IntKind.wrap_i64]; omega
theorem digF_neg {u : Nat} (hu : u < 1000000000000) : digF 10 (45 :: Lib.decDigits u) = (-(u : Int), true) := by
  have hi : (Lib.decDigits u).isEmpty = false := by obtain ⟨c, r, e⟩ := dec_cons u; rw [e]; rfl
  unfold digF
  rw [show ((45 :: Lib.decDigits u).head? == some (45 : UInt8)) = true from rfl]
  simp only [cond_true, List.tail_cons]
  rw [dg10 u hu]
  simp only [hi, cond_false, Bool.not_true, Bool.false_and]
def Nm (l : List UInt8) (acc res : List Int) : Prop := ∀ f, l.length < f → numO f l acc = some res
theorem Nm.nil (acc : List Int) : Nm [] acc acc := fun f hf => by
  cases f with
  | zero => simp at hf
  | succ f => rfl
theorem Nm.skip {c : UInt8} {r : List UInt8} {acc res : List Int} (h : skipB (c.toNat : Int) = true) (k : Nm r acc res) : Nm (c :: r) acc res := fun f hf => by
  cases f with
  | zero => simp at hf
  | succ f =>
    simp only [List.length_cons] at hf
    simp only [numO, h, cond_true]
    exact k f (by omega)
def Stop (r : List UInt8) : Prop := ∀ c ∈ r.head?, c = 32 ∨ c = 40 ∨ c = 41 ∨ c = 44
theorem Stop.nil : Stop [] := fun c h => by cases h
theorem Stop.cons {c : UInt8} {r : List UInt8} (h : c = 32 ∨ c = 40 ∨ c = 41 ∨ c = 44) : Stop (c :: r) := fun d hd => by
  cases hd; exact h
theorem stop_tw {base : Int} {t r : List UInt8} (ht : ∀ c ∈ t, contU base c = true) (hr : Stop r) (hb : base = 10 ∨ base = 16) : (t ++ r).takeWhile (contU base) = t ∧ (t ++ r).dropWhile (contU base) = r := by
  have e1 : r.takeWhile (contU base) = [] ∧ r.dropWhile (contU base) = r := by
    cases r with
    | nil => exact ⟨rfl, rfl⟩
    | cons c r =>
      have hc : contU base c = false := by
        rcases hr c rfl with rfl | rfl | rfl | rfl <;> rcases hb with rfl | rfl <;> rfl
      rw [List.takeWhile_cons, List.dropWhile_cons, hc]
      exact ⟨rfl, rfl⟩
  induction t with
  | nil => exact e1
  | cons c t ih =>
    obtain ⟨i1, i2⟩ := ih (fun d hd => ht d (List.mem_cons_of_mem _ hd))
    have hc := ht c (List.mem_cons_self)
    rw [List.cons_append, List.takeWhile_cons, List.dropWhile_cons, hc]
    simp only [if_true]
    exact ⟨by rw [i1], i2⟩
theorem dig_cont {c : UInt8} (h : 48 ≤ c.toNat ∧ c.toNat ≤ 57) : contU 10 c = true := by
  unfold contU contB
  rw [decide_eq_true (show (c.toNat : Int) ≥ 48 by omega), decide_eq_true (show (c.toNat : Int) ≤ 57 by omega)]
  rfl
theorem dig_skip {c : UInt8} (h : 48 ≤ c.toNat ∧ c.toNat ≤ 57) : skipB (c.toNat : Int) = false := by
  unfold skipB
  rw [decide_eq_false (show ¬ (c.toNat : Int) < 48 by omega), decide_eq_false (show ¬ (c.toNat : Int) > 57 by omega)]
  rfl
theorem Nm.tok {c : UInt8} {t r : List UInt8} {n : Int} {acc res : List Int} (hs : skipB (c.toNat : Int) = false) (ht : ∀ d ∈ t, 48 ≤ d.toNat ∧ d.toNat ≤ 57) (hr : Stop r) (hd : digF 10 (c :: t) = (n, true)) (k : Nm r (acc ++ [n]) res) : Nm (c :: t ++ r) acc res := fun f hf => by
  cases f with
  | zero => simp at hf
  | succ f =>
    have hx : isHex c (t ++ r) = false := by
      unfold isHex
      rw [Bool.and_eq_false_iff]
      right
      rw [beq_eq_false_iff_ne]
      intro h
      cases t with
      | nil =>
        rcases hr 120 h with h | h | h | h <;> exact absurd h (by decide)
      | cons d t =>
        injection h with h
        subst h
        exact absurd (ht 120 (by simp)).2 (by decide)
    obtain ⟨e1, e2⟩ := stop_tw (base := 10) (t := t) (fun d hd => dig_cont (ht d hd)) hr (.inl rfl)
    have hb : baseN c (t ++ r) = 10 := by unfold baseN; rw [hx]; rfl
    have hp : preN c (t ++ r) = c :: t := by unfold preN; rw [hx, cond_false, e1]
    have hq : restN c (t ++ r) = r := by unfold restN; rw [hx, cond_false, e2]
    rw [List.cons_append]
    simp only [numO, hs, hb, hp, hq, hd, cond_false, cond_true]
    simp only [List.length_append, List.length_cons] at hf
    exact k f (by omega)
theorem Nm.itoa {n : Int} {r : List UInt8} {acc res : List Int} (h : -1000000000000 < n ∧ n < 1000000000000) (hr : Stop r) (k : Nm r (acc ++ [n]) res) : Nm (Lib.itoa n ++ r) acc res := by
  unfold Lib.itoa
  split
  · rename_i hn
    refine Nm.tok (t := Lib.decDigits n.natAbs) (by rfl) (digs _) hr ?_ k
    rw [digF_neg (by omega)]
    congr 1; omega
  · rename_i hn
    obtain ⟨c, t, e⟩ := dec_cons n.toNat
    have hg := digs n.toNat
    rw [e] at hg ⊢
    refine Nm.tok (dig_skip (hg c (by simp))) (fun d hd => hg d (by simp [hd])) hr ?_ k
    rw [← e, digF_dec (by omega)]
    congr 1; omega
theorem Nm.reg {n : Int} {r : List UInt8} {acc res : List Int} (h : isReg n = true) (hr : Stop r) (k : Nm r (acc ++ [n]) res) : Nm (xL n ++ r) acc res := by
  simp only [isReg, Bool.and_eq_true, decide_eq_true_eq] at h
  exact Nm.skip (by rfl) (Nm.itoa (by omega) hr k)
theorem hex_tab : (List.range 4096).all (fun n => (digF 16 [hd ((n / 256 : Nat) : Int), hd ((n / 16 % 16 : Nat) : Int), hd ((n % 16 : Nat) : Int)] == ((n : Int), true)) && ([hd ((n / 256 : Nat) : Int), hd ((n / 16 % 16 : Nat) : Int), hd ((n % 16 : Nat) : Int)].all (contU 16))) = true := by kernel_rfl
theorem Nm.hex {w : Int} {r : List UInt8} {acc res : List Int} (h : 0 ≤ w ∧ w ≤ 4095) (hr : Stop r) (k : Nm r (acc ++ [w]) res) : Nm (48 :: 120 :: (hxL (IntKind.u32.wrap w) ++ r)) acc res := fun f hf => by
  obtain ⟨n, rfl⟩ := Int.eq_ofNat_of_zero_le h.1
  have hn : n < 4096 := by omega
  have hW : W32 (n : Int) := ⟨by omega, by omega⟩
  have e : hxL (IntKind.u32.wrap (n : Int)) = [hd ((n / 256 : Nat) : Int), hd ((n / 16 % 16 : Nat) : Int), hd ((n % 16 : Nat) : Int)] := by
    rw [u32_id hW]
    unfold hxL
    have b1 : bitV (n : Int) 8 4 = (n : Int) / 256 % 16 := bitV_lit hW (by decide) (by decide) (by decide) (by decide)
    have b2 : bitV (n : Int) 4 4 = (n : Int) / 16 % 16 := bitV_lit hW (by decide) (by decide) (by decide) (by decide)
    have b3 : bitV (n : Int) 0 4 = (n : Int) / 1 % 16 := bitV_lit hW (by decide) (by decide) (by decide) (by decide)
    rw [b1, b2, b3, show (n : Int) / 256 % 16 = ((n / 256 : Nat) : Int) by omega, show (n : Int) / 16 % 16 = ((n / 16 % 16 : Nat) : Int) by omega, show (n : Int) / 1 % 16 = ((n % 16 : Nat) : Int) by omega]
  have ha := List.all_eq_true.1 hex_tab n (List.mem_range.2 hn)
  rw [Bool.and_eq_true, beq_iff_eq] at ha
  rw [← e] at ha
  obtain ⟨h1, h2⟩ := ha
  obtain ⟨e1, e2⟩ := stop_tw (base := 16) (t := hxL (IntKind.u32.wrap (n : Int))) (fun d hd => List.all_eq_true.1 h2 d hd) hr (.inr rfl)
  cases f with
  | zero => simp at hf
  | succ f =>
    have hb : baseN 48 (120 :: (hxL (IntKind.u32.wrap (n : Int)) ++ r)) = 16 := rfl
    have hp : preN 48 (120 :: (hxL (IntKind.u32.wrap (n : Int)) ++ r)) = hxL (IntKind.u32.wrap (n : Int)) := e1
    have hq : restN 48 (120 :: (hxL (IntKind.u32.wrap (n : Int)) ++ r)) = r := e2
    have hs : skipB (((48 : UInt8).toNat : Nat) : Int) = false := rfl
    simp only [numO, hs, hb, hp, hq, h1, cond_false, cond_true]
    simp only [List.length_append, List.length_cons] at hf
    exact k f (by omega)
end Go.Proofs.YtgkicojmgokinaaGreatDoor.Ab
