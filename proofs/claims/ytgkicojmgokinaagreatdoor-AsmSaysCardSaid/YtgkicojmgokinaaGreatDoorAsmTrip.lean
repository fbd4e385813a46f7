/- Trimmed: AsmTrip -/
import Derived.Test.YtgkicojmgokinaaGreatDoorAsmParsed
import Derived.Lib.AtoiTie
import Derived.Lib.ParseIntBTie
namespace Go.Proofs.YtgkicojmgokinaaGreatDoor.Ab
open Go Go.RowKit
set_option linter.unusedVariables false
set_option linter.unusedSimpArgs false
theorem dig_toNat {u : Nat} (h : u < 10) : (UInt8.ofNat (48 + u)).toNat = 48 + u := by rw [UInt8.toNat_ofNat']; omega
theorem digs : ∀ (u : Nat), ∀ b ∈ Lib.decDigits u, 48 ≤ b.toNat ∧ b.toNat ≤ 57 := by
  intro u
  induction u using Nat.strongRecOn with
  | _ u ih =>
    intro b hb
    by_cases h : u < 10
    · rw [Lib.decDigits, dif_pos h] at hb
      simp only [List.mem_cons, List.not_mem_nil, or_false] at hb
      rw [hb, dig_toNat h]; omega
    · rw [Lib.decDigits, dif_neg h] at hb
      rcases List.mem_append.1 hb with hb | hb
      · exact ih (u / 10) (by omega) b hb
      · simp only [List.mem_cons, List.not_mem_nil, or_false] at hb
        rw [hb, dig_toNat (by omega)]; omega
theorem digs_ne (u : Nat) : Lib.decDigits u ≠ [] := by
  intro h
  have := Lib.decDigits_length u
  rw [h] at this
  have := Lib.nDigits_pos u
  simp at *
  omega
theorem digit_ofNat {u : Nat} (h : u < 10) : Lib.digitVal (UInt8.ofNat (48 + u)) = some u := by
  unfold Lib.digitVal
  rw [dig_toNat h]
  rw [if_pos (by omega)]
  congr 1; omega
theorem decFrom_app : ∀ (a b : List UInt8) (acc : Nat), Lib.decFrom acc (a ++ b) = (Lib.decFrom acc a).bind fun n => Lib.decFrom n b
  | [], b, acc => rfl
  | x :: a, b, acc => by
    simp only [List.cons_append, Lib.decFrom]
    cases Lib.digitVal x with
    | none => rfl
    | some d => simpa using decFrom_app a b _
theorem decFrom_dec : ∀ (u : Nat), Lib.decFrom 0 (Lib.decDigits u) = some u := by
  intro u
  induction u using Nat.strongRecOn with
  | _ u ih =>
    by_cases h : u < 10
    · rw [Lib.decDigits, dif_pos h]
      simp only [Lib.decFrom, digit_ofNat h, Nat.zero_mul, Nat.zero_add]
    · rw [Lib.decDigits, dif_neg h, decFrom_app, ih (u / 10) (by omega)]
      simp only [Option.bind_some, Lib.decFrom, digit_ofNat (show u % 10 < 10 by omega)]
      congr 1; omega
theorem decNat_dec (u : Nat) : Lib.decNat (Lib.decDigits u) = some u := by
  unfold Lib.decNat
  cases h : Lib.decDigits u with
  | nil => exact (digs_ne u h).elim
  | cons b r =>
    rw [← h]
    have e : (Lib.decDigits u).isEmpty = false := by rw [h]; rfl
    rw [e]
    simpa using decFrom_dec u
theorem atoi_dec (u : Nat) : Lib.atoi (Lib.decDigits u) = some (u : Int) := by
  have hd := digs u
  have hn := decNat_dec u
  cases h : Lib.decDigits u with
  | nil => exact (digs_ne u h).elim
  | cons b r =>
    rw [h] at hd hn
    have hb := hd b (by simp)
    have h1 : (b == 45) = false := by
      rw [beq_eq_false_iff_ne]; intro e; subst e; exact absurd hb.1 (by decide)
    have h2 : (b == 43) = false := by
      rw [beq_eq_false_iff_ne]; intro e; subst e; exact absurd hb.1 (by decide)
    simp [Lib.atoi, h1, h2, hn]
theorem atoi_itoa (n : Int) : Lib.atoi (Lib.itoa n) = some n := by
  unfold Lib.itoa
  split
  · simp only [Lib.atoi, beq_self_eq_true, if_true, decNat_dec, Option.map_some]
    congr 1; omega
  · rw [atoi_dec]; congr 1; omega
theorem atoi_all {l : List UInt8} {n : Int} (h : Lib.atoi l = some n) (hl : l.length ≤ 18) : Lib.atoiAll l = .ok n := by
  rw [Lib.atoiAll_short l hl, h]; rfl
theorem atoiR_of {l : List UInt8} {n : Int} (h : Lib.atoi l = some n) (hl : l.length ≤ 18) : atoiR l = (n, true) := by
  unfold atoiR; rw [atoi_all h hl]
theorem pintR_of {l : List UInt8} {n : Int} (h : Lib.atoi l = some n) (hl : l.length ≤ 18) : pintR l = (n, true) := by
  unfold pintR; rw [Lib.parseIntB_64, atoi_all h hl]
theorem nDigits_le : ∀ (k u : Nat), 1 ≤ k → u < 10 ^ k → Lib.nDigits u ≤ k
  | 0, u, h, _ => by omega
  | k + 1, u, _, h => by
    by_cases hu : u < 10
    · rw [Lib.nDigits_small hu]; omega
    · rw [Lib.nDigits_big hu]
      have hk : 1 ≤ k := by
        rcases Nat.eq_zero_or_pos k with rfl | hk
        · exact absurd h (by simpa using hu)
        · exact hk
      have := nDigits_le k (u / 10) hk (by rw [Nat.pow_succ] at h; omega)
      omega
theorem dec32 {u : Nat} (h : u < 10000000000) : (Lib.decDigits u).length ≤ 10 := by
  rw [Lib.decDigits_length]; exact nDigits_le 10 u (by decide) h
def sgn (w : Int) : Int := IntKind.i64.wrap (IntKind.i32.wrap w)
theorem sgn_rng (w : Int) : -2147483648 ≤ sgn w ∧ sgn w ≤ 2147483647 := by
  unfold sgn; rw [IntKind.wrap_i64, IntKind.wrap_i32]; omega
theorem sgL_len (w : Int) : (sgL w).length ≤ 11 := by
  have h := sgn_rng w
  show (Lib.itoa (sgn w)).length ≤ 11
  unfold Lib.itoa
  split
  · have := dec32 (u := (sgn w).natAbs) (by omega); simp; omega
  · have := dec32 (u := (sgn w).toNat) (by omega); omega
theorem num_sgL {w : Int} (h : 0 ≤ w ∧ w < 4294967296) : numN (bs (sgL w)) = w ∧ numB (bs (sgL w)) = false := by
  have hp : pintR (bytes (bs (sgL w))) = (sgn w, true) := pintR_of (atoi_itoa (sgn w)) (by have := sgL_len w; show (sgL w).length ≤ 18; omega)
  have hr := sgn_rng w
  unfold numN numB pinN pinB
  rw [hp]
  refine ⟨?_, ?_⟩
  · show IntKind.u32.wrap (sgn w) = w
    unfold sgn; rw [IntKind.wrap_u32, IntKind.wrap_i64, IntKind.wrap_i32]; omega
  · have h1 : decide (sgn w < -2147483648) = false := decide_eq_false (by omega)
    have h2 : decide (sgn w ≥ 4294967296) = false := decide_eq_false (by omega)
    show (!(true && (!decide (sgn w < -2147483648) && !decide (sgn w ≥ 4294967296)))) = false
    rw [h1, h2]; rfl
theorem plL_eq {w : Int} (h : 0 ≤ w ∧ w < 4294967296) : plL w = Lib.decDigits w.toNat := by
  unfold plL; rw [IntKind.wrap_u64]; congr 1; omega
theorem num_plL {w : Int} (h : 0 ≤ w ∧ w < 4294967296) : numN (bs (plL w)) = w ∧ numB (bs (plL w)) = false := by
  have hp : pintR (bytes (bs (plL w))) = (w, true) := by
    have e : bytes (bs (plL w)) = Lib.decDigits w.toNat := plL_eq h
    rw [e]
    have := pintR_of (atoi_dec w.toNat) (by have := dec32 (u := w.toNat) (by omega); omega)
    rw [this]; congr 1; omega
  unfold numN numB pinN pinB
  rw [hp]
  refine ⟨?_, ?_⟩
  · show IntKind.u32.wrap w = w
    rw [IntKind.wrap_u32]; omega
  · have h1 : decide (w < -2147483648) = false := decide_eq_false (by omega)
    have h2 : decide (w ≥ 4294967296) = false := decide_eq_false (by omega)
    show (!(true && (!decide (w < -2147483648) && !decide (w ≥ 4294967296)))) = false
    rw [h1, h2]; rfl
theorem reg_xL {r : Int} (h : isReg r = true) : regN (bs (xL r)) = r ∧ regB (bs (xL r)) = false := by
  simp only [isReg, Bool.and_eq_true, decide_eq_true_eq] at h
  have e1 : bytes (prefS (bs (xL r)) cx) = Lib.itoa r := rfl
  have e2 : prefB (bs (xL r)) cx = true := rfl
  have hl : (Lib.itoa r).length ≤ 18 := by
    unfold Lib.itoa
    rw [if_neg (by omega)]
    have := dec32 (u := r.toNat) (by omega); omega
  have hp := atoiR_of (atoi_itoa r) hl
  unfold regN regB atoN atoB
  rw [e1, e2, hp]
  exact ⟨rfl, rfl⟩
theorem hex_all : ∀ a : Nat, a < 16 → ∀ b : Nat, b < 16 → ∀ c : Nat, c < 16 → parseHex [hd a, hd b, hd c] = .ok (a * 256 + b * 16 + c) := by decide +kernel
end Go.Proofs.YtgkicojmgokinaaGreatDoor.Ab
namespace Go.Proofs.YtgkicojmgokinaaGreatDoor.Ab
open Go Go.RowKit
set_option linter.unusedVariables false
set_option linter.unusedSimpArgs false
set_option maxRecDepth 100000
theorem idx1 (c : UInt8) (b : List UInt8) : ∀ a : List UInt8, c ∉ a → Lib.index (a ++ c :: b) [c] = a.length
  | [], _ => by simp [Lib.index]
  | x :: a, h => by
    simp only [List.mem_cons, not_or] at h
    have ih := idx1 c b a h.2
    have hx : (c == x) = false := beq_eq_false_iff_ne.2 h.1
    rw [List.cons_append, Lib.index]
    have hp : List.isPrefixOf [c] (x :: (a ++ c :: b)) = false := by simp [List.isPrefixOf, hx]
    rw [hp, ih]
    have : ((a.length : Int) == -1) = false := by rw [beq_eq_false_iff_ne]; omega
    simp [this]
theorem idx0 (c : UInt8) : ∀ a : List UInt8, c ∉ a → Lib.index a [c] = -1
  | [], _ => by simp [Lib.index]
  | x :: a, h => by
    simp only [List.mem_cons, not_or] at h
    have ih := idx0 c a h.2
    have hx : (c == x) = false := beq_eq_false_iff_ne.2 h.1
    rw [Lib.index]
    have hp : List.isPrefixOf [c] (x :: a) = false := by simp [List.isPrefixOf, hx]
    rw [hp, ih]; rfl
theorem cut_hit (c : UInt8) (a b : List UInt8) (h : c ∉ a) : Lib.cut (a ++ c :: b) [c] = (a, b, true) := by
  unfold Lib.cut
  rw [idx1 c b a h, if_pos (by omega)]
  have e : ((a.length : Int)).toNat = a.length := by omega
  have e2 : a ++ c :: b = (a ++ [c]) ++ b := by simp
  rw [e]
  congr 1
  · simp
  · congr 1
    rw [e2, List.drop_left' (by simp)]
theorem cut_miss (c : UInt8) (a : List UInt8) (h : c ∉ a) : Lib.cut a [c] = (a, [], false) := by
  unfold Lib.cut
  rw [idx0 c a h, if_neg (by omega)]
theorem idx2 (r : List UInt8) : ∀ a : List UInt8, (44 : UInt8) ∉ a → Lib.index (a ++ 44 :: 32 :: r) [44, 32] = a.length
  | [], _ => by simp [Lib.index]
  | x :: a, h => by
    simp only [List.mem_cons, not_or] at h
    have ih := idx2 r a h.2
    have hx : ((44 : UInt8) == x) = false := beq_eq_false_iff_ne.2 h.1
    rw [List.cons_append, Lib.index]
    have hp : List.isPrefixOf [44, 32] (x :: (a ++ 44 :: 32 :: r)) = false := by simp [List.isPrefixOf, hx]
    rw [hp, ih]
    have : ((a.length : Int) == -1) = false := by rw [beq_eq_false_iff_ne]; omega
    simp [this]
theorem idx20 : ∀ a : List UInt8, (44 : UInt8) ∉ a → Lib.index a [44, 32] = -1
  | [], _ => by simp [Lib.index]
  | x :: a, h => by
    simp only [List.mem_cons, not_or] at h
    have ih := idx20 a h.2
    have hx : ((44 : UInt8) == x) = false := beq_eq_false_iff_ne.2 h.1
    rw [Lib.index]
    have hp : List.isPrefixOf [44, 32] (x :: a) = false := by simp [List.isPrefixOf, hx]
    rw [hp, ih]; rfl
theorem join_cons (x y : List UInt8) (r : List (List UInt8)) (p : List UInt8) : Lib.join (x :: y :: r) p = x ++ (p ++ Lib.join (y :: r) p) := by simp [Lib.join, List.intercalate]
theorem split_count : ∀ (r : List (List UInt8)) (x : List UInt8), (∀ y ∈ x :: r, (44 : UInt8) ∉ y) → Lib.count (Lib.join (x :: r) [44, 32]) [44, 32] = r.length ∧ Lib.splitK [44, 32] 0 r.length (Lib.join (x :: r) [44, 32]) = x :: r
  | [], x, h => by
    have hx := h x (by simp)
    have e : Lib.join [x] [44, 32] = x := by simp [Lib.join, List.intercalate]
    rw [e]
    exact ⟨Lib.count_miss (idx20 x hx), rfl⟩
  | y :: r, x, h => by
    have hx := h x (by simp)
    obtain ⟨h1, h2⟩ := split_count r y (fun z hz => h z (by simp only [List.mem_cons] at hz ⊢; exact .inr hz))
    have hi : Lib.index (Lib.join (x :: y :: r) [44, 32]) [44, 32] = x.length := by rw [join_cons]; exact idx2 _ x hx
    have hd : (Lib.join (x :: y :: r) [44, 32]).drop (x.length + 2) = Lib.join (y :: r) [44, 32] := by
      rw [join_cons]
      have : x ++ ([44, 32] ++ Lib.join (y :: r) [44, 32]) = (x ++ [44, 32]) ++ Lib.join (y :: r) [44, 32] := by simp
      rw [this, List.drop_left' (by simp)]
    refine ⟨?_, ?_⟩
    · rw [Lib.count_hit (by simp) hi]
      show 1 + Lib.count ((Lib.join (x :: y :: r) [44, 32]).drop (x.length + 2)) _ = _
      rw [hd, h1, List.length_cons]; omega
    · show Lib.splitK [44, 32] 0 (r.length + 1) _ = _
      unfold Lib.splitK
      rw [hi]
      have hm : ((x.length : Int) == -1) = false := by rw [beq_eq_false_iff_ne]; omega
      have e : ((x.length : Int)).toNat = x.length := by omega
      rw [hm, e]
      simp only [Bool.false_eq_true, if_false, Nat.add_zero]
      congr 1
      · rw [join_cons, List.take_left' rfl]
      · show Lib.splitK [44, 32] 0 r.length ((Lib.join (x :: y :: r) [44, 32]).drop (x.length + 2)) = _
        rw [hd, h2]
theorem splitL_join {xs : List (List UInt8)} (hne : xs ≠ []) (h : ∀ y ∈ xs, (44 : UInt8) ∉ y) : splitL (Lib.join xs [44, 32]) [44, 32] = xs := by
  cases xs with
  | nil => exact (hne rfl).elim
  | cons x r =>
    obtain ⟨h1, h2⟩ := split_count r x h
    show Lib.splitK [44, 32] 0 (Lib.count (Lib.join (x :: r) [44, 32]) [44, 32]) _ = _
    rw [h1, h2]
theorem dec_no {c : UInt8} (hc : c.toNat < 48 ∨ 57 < c.toNat) (u : Nat) : c ∉ Lib.decDigits u := fun h => by have := digs u c h; omega
theorem itoa_no {c : UInt8} (hc : c.toNat < 45 ∨ 57 < c.toNat ∨ c.toNat = 46 ∨ c.toNat = 47) (n : Int) : c ∉ Lib.itoa n := by
  unfold Lib.itoa
  split
  · intro h
    rcases List.mem_cons.1 h with rfl | h
    · exact absurd hc (by decide)
    · exact dec_no (by omega) _ h
  · exact dec_no (by omega) _
theorem xL_no {c : UInt8} (hc : c = 40 ∨ c = 41 ∨ c = 44 ∨ c = 32) (n : Int) : c ∉ xL n := by
  intro h
  rcases List.mem_cons.1 h with rfl | h
  · exact absurd hc (by decide)
  · exact itoa_no (by rcases hc with rfl | rfl | rfl | rfl <;> decide) n h
theorem sgL_no {c : UInt8} (hc : c = 40 ∨ c = 41 ∨ c = 44 ∨ c = 32) (w : Int) : c ∉ sgL w := itoa_no (by rcases hc with rfl | rfl | rfl | rfl <;> decide) _
theorem plL_no {c : UInt8} (hc : c = 40 ∨ c = 41 ∨ c = 44 ∨ c = 32) (w : Int) : c ∉ plL w := dec_no (by rcases hc with rfl | rfl | rfl | rfl <;> decide) _
theorem liL_no {c : UInt8} (hc : c = 44 ∨ c = 32) (n : Int) : c ∉ liL n := by
  intro h
  unfold liL at h
  rcases List.mem_cons.1 h with rfl | h
  · exact absurd hc (by decide)
  · rcases List.mem_append.1 h with h | h
    · exact xL_no (by rcases hc with rfl | rfl <;> decide) n h
    · simp only [List.mem_cons, List.not_mem_nil, or_false] at h
      subst h; exact absurd hc (by decide)
theorem hd_all : ∀ n : Nat, n < 16 → hd n ≠ 44 ∧ hd n ≠ 32 := by decide
theorem hd_no {n : Int} (h : 0 ≤ n ∧ n < 16) : hd n ≠ 44 ∧ hd n ≠ 32 := by
  have := hd_all n.toNat (by omega)
  rwa [show ((n.toNat : Nat) : Int) = n by omega] at this
theorem hxL_no {c : UInt8} (hc : c = 44 ∨ c = 32) (w : Int) : c ∉ (48 :: 120 :: hxL w : List UInt8) := by
  intro h
  have a := hd_no (bit4 w 8)
  have b := hd_no (bit4 w 4)
  have d := hd_no (bit4 w 0)
  simp only [hxL, List.mem_cons, List.not_mem_nil, or_false] at h
  rcases hc with rfl | rfl
  · rcases h with h | h | h | h | h
    · exact absurd h (by decide)
    · exact absurd h (by decide)
    · exact a.1 h.symm
    · exact b.1 h.symm
    · exact d.1 h.symm
  · rcases h with h | h | h | h | h
    · exact absurd h (by decide)
    · exact absurd h (by decide)
    · exact a.2 h.symm
    · exact b.2 h.symm
    · exact d.2 h.symm
theorem parts_no (i : Inst) {c : UInt8} (hc : c = 44 ∨ c = 32) : ∀ y ∈ partsL i, c ∉ y := by
  have hc4 : c = 40 ∨ c = 41 ∨ c = 44 ∨ c = 32 := .inr (.inr hc)
  unfold partsL
  split <;> intro y hy <;> simp only [List.mem_cons, List.not_mem_nil, or_false] at hy
  all_goals first
    | exact absurd hy id
    | (rcases hy with rfl | rfl | rfl <;> first | exact xL_no hc4 _ | exact sgL_no hc4 _ | exact plL_no hc4 _ | exact liL_no hc _ | exact hxL_no hc _ | (intro h; rcases List.mem_append.1 h with h | h <;> first | exact sgL_no hc4 _ h | exact liL_no hc _ h))
    | (rcases hy with rfl | rfl <;> first | exact xL_no hc4 _ | exact sgL_no hc4 _ | exact plL_no hc4 _ | exact liL_no hc _ | exact hxL_no hc _ | (intro h; rcases List.mem_append.1 h with h | h <;> first | exact sgL_no hc4 _ h | exact liL_no hc _ h))
theorem lies_of (a : List UInt8) (ha : (40 : UInt8) ∉ a) {r : Int} (h : isReg r = true) : liT (bs (a ++ liL r)) = bs a ∧ liN (bs (a ++ liL r)) = r ∧ liB (bs (a ++ liL r)) = false := by
  have hc : Lib.cut (a ++ liL r) [40] = (a, xL r ++ [41], true) := cut_hit 40 a (xL r ++ [41]) ha
  have e1 : cut1 (bs (a ++ liL r)) c28 = bs a := by show bs (Lib.cut (a ++ liL r) [40]).1 = _; rw [hc]
  have e2 : cut2 (bs (a ++ liL r)) c28 = bs (xL r ++ [41]) := by show bs (Lib.cut (a ++ liL r) [40]).2.1 = _; rw [hc]
  have e3 : cut3 (bs (a ++ liL r)) c28 = true := by show (Lib.cut (a ++ liL r) [40]).2.2 = _; rw [hc]
  have hs : Lib.hasSuffix (xL r ++ [41]) [41] = true := by
    unfold Lib.hasSuffix; rw [List.isSuffixOf_iff_suffix]; exact List.suffix_append _ _
  have s1 : sufB (bs (xL r ++ [41])) c29 = true := hs
  have s2 : sufS (bs (xL r ++ [41])) c29 = bs (xL r) := by
    show bs (Lib.trimSuffix (xL r ++ [41]) [41]) = _
    unfold Lib.trimSuffix
    rw [if_pos hs]; simp
  have hr := reg_xL h
  unfold liT liN liB
  rw [e1, e2, e3, s1, s2, hr.1, hr.2]
  exact ⟨rfl, rfl, rfl⟩
theorem bitV_eq {w lo : Int} (h : 0 ≤ w ∧ w < 4294967296) (hl : 0 ≤ lo) : bitV w lo 4 = w / 2 ^ lo.toNat % 16 := by
  unfold bitV
  have e : (2 ^ (4 : Int).toNat - 1 : Int) = 15 := by decide
  have hp : (0 : Int) < 2 ^ lo.toNat := Int.pow_pos (by decide)
  have hd : w.fdiv (2 ^ lo.toNat) = w / 2 ^ lo.toNat := Int.fdiv_eq_ediv_of_nonneg _ (Int.le_of_lt hp)
  rw [e, hd]
  have h0 : 0 ≤ w / 2 ^ lo.toNat := Int.ediv_nonneg h.1 (Int.le_of_lt hp)
  have h1 : w / 2 ^ lo.toNat < 4294967296 := Int.lt_of_le_of_lt (Int.ediv_le_self _ h.1) h.2
  generalize w / 2 ^ lo.toNat = x at h0 h1
  obtain ⟨n, rfl⟩ := Int.eq_ofNat_of_zero_le h0
  have := u32_and_nat n 15 (by omega) (by decide)
  rw [show ((15 : Nat) : Int) = 15 from rfl] at this
  rw [this, show (15 : Nat) = 2 ^ 4 - 1 by decide, Nat.and_two_pow_sub_one_eq_mod]
  omega
theorem csr_hxL {r : Int} (h : 0 ≤ r ∧ r ≤ 4095) : csrN (bs (48 :: 120 :: hxL (IntKind.u32.wrap r))) = r ∧ csrB (bs (48 :: 120 :: hxL (IntKind.u32.wrap r))) = false := by
  have hw : IntKind.u32.wrap r = r := by rw [IntKind.wrap_u32]; omega
  rw [hw]
  have e1 : bytes (prefS (bs (48 :: 120 :: hxL r)) cox) = hxL r := rfl
  have e2 : prefB (bs (48 :: 120 :: hxL r)) cox = true := rfl
  have b8 := bitV_eq (w := r) (lo := 8) (by omega) (by decide)
  have b4 := bitV_eq (w := r) (lo := 4) (by omega) (by decide)
  have b0 := bitV_eq (w := r) (lo := 0) (by omega) (by decide)
  have p8 : (2 : Int) ^ (8 : Int).toNat = 256 := by decide
  have p4 : (2 : Int) ^ (4 : Int).toNat = 16 := by decide
  have p0 : (2 : Int) ^ (0 : Int).toNat = 1 := by decide
  rw [p8] at b8; rw [p4] at b4; rw [p0, Int.ediv_one] at b0
  have hx : hexR (hxL r) = (r, true) := by
    have ha := hex_all (bitV r 8 4).toNat (by omega) (bitV r 4 4).toNat (by omega) (bitV r 0 4).toNat (by omega)
    rw [show (((bitV r 8 4).toNat : Nat) : Int) = bitV r 8 4 by omega, show (((bitV r 4 4).toNat : Nat) : Int) = bitV r 4 4 by omega, show (((bitV r 0 4).toNat : Nat) : Int) = bitV r 0 4 by omega] at ha
    have hh : parseHex (hxL r) = .ok ((bitV r 8 4).toNat * 256 + (bitV r 4 4).toNat * 16 + (bitV r 0 4).toNat) := ha
    have hr : (((bitV r 8 4).toNat * 256 + (bitV r 4 4).toNat * 16 + (bitV r 0 4).toNat : Nat) : Int) = r := by
      rw [b8, b4, b0]
      have e1 : r / 256 = r / 16 / 16 := by rw [Int.ediv_ediv_of_nonneg (by decide)]; rfl
      rw [e1]
      omega
    unfold hexR
    rw [hh]
    show (((_ : Nat) : Int), true) = (r, true)
    rw [hr]
  unfold csrN csrB hexN hexB
  rw [e1, e2, hx]
  refine ⟨?_, rfl⟩
  show IntKind.i64.wrap r = r
  rw [IntKind.wrap_i64]; omega
theorem layU_mod {x : Int} (hx : 0 ≤ x ∧ x < 4294967296) (h : (layV 85 x).2 = true) : x % 4096 = 0 := by
  unfold layV at h
  cases hb : (immV 85 (layW 85 x) != x) with
  | true => rw [hb] at h; cases h
  | false =>
    have e : immV 85 (layW 85 x) = x := by simpa using hb
    have e2 : immV 85 (layW 85 x) = immU bitV (layW 85 x) := by simp [immV]
    rw [e2] at e
    unfold immU at e
    have hw : 0 ≤ IntKind.u32.wrap (bitV (layW 85 x) 12 20 * 4096) ∧ IntKind.u32.wrap (bitV (layW 85 x) 12 20 * 4096) < 4294967296 ∧ IntKind.u32.wrap (bitV (layW 85 x) 12 20 * 4096) % 4096 = 0 := by rw [IntKind.wrap_u32]; omega
    generalize IntKind.u32.wrap (bitV (layW 85 x) 12 20 * 4096) = y at e hw
    obtain ⟨n, rfl⟩ := Int.eq_ofNat_of_zero_le hw.1
    have := u32_or_nat 0 n (by decide) (by omega)
    rw [show ((0 : Nat) : Int) = 0 from rfl, Nat.zero_or] at this
    rw [this] at e
    omega
theorem fence_all : ∀ n : Nat, n < 256 → bits .or .u32 (IntKind.u32.wrap (bitV n 4 4 * 16)) (bitV n 0 4) = n := by decide +kernel
def nameM (op : Int) (aq rl : Bool) : List UInt8 := nameF op ++ (bif aq then [46, 97, 113] else []) ++ (bif rl then [46, 114, 108] else [])
def nameQ (n : ByteArray) : ByteArray × Bool × Bool := bif opN n == 0 then (sufS (sufS n crl) caq, sufB (sufS n crl) caq, sufB n crl) else (n, false, false)
def nameCk (k : Nat) (aq rl : Bool) : Bool :=
  (!isA (formL.getD k 0) && (aq || rl)) || (!(nameM ((k : Int) + 1) aq rl).contains 32 && (opN (nameQ (bs (nameM ((k : Int) + 1) aq rl))).1 == (k : Int) + 1 && ((nameQ (bs (nameM ((k : Int) + 1) aq rl))).2.1 == aq && (nameQ (bs (nameM ((k : Int) + 1) aq rl))).2.2 == rl)))
theorem name_all : ∀ k : Nat, k < 69 → ∀ aq rl : Bool, nameCk k aq rl = true := by decide +kernel
theorem name_ok {op : Int} {aq rl : Bool} (h : isOp op = true) (ha : isA (formF op) = false → aq = false ∧ rl = false) :
    (32 : UInt8) ∉ nameM op aq rl ∧ opN (nameQ (bs (nameM op aq rl))).1 = op ∧ (nameQ (bs (nameM op aq rl))).2 = (aq, rl) := by
  simp only [isOp, Bool.and_eq_true, decide_eq_true_eq] at h
  have := name_all (op - 1).toNat (by omega) aq rl
  unfold nameCk at this
  have e : (((op - 1).toNat : Nat) : Int) + 1 = op := by omega
  rw [e] at this
  have hA : (!isA (formL.getD (op - 1).toNat 0) && (aq || rl)) = false := by
    cases hf : isA (formL.getD (op - 1).toNat 0) with
    | true => rfl
    | false =>
      obtain ⟨rfl, rfl⟩ := ha hf
      rfl
  rw [hA, Bool.false_or] at this
  simp only [Bool.and_eq_true, Bool.not_eq_true', beq_iff_eq] at this
  obtain ⟨h1, h2, h3, h4⟩ := this
  refine ⟨?_, h2, ?_⟩
  · intro hm
    have : (nameM op aq rl).contains 32 = true := by simpa using hm
    rw [this] at h1; cases h1
  · exact Prod.ext h3 h4
theorem sort_same : sortL = rsortL := by decide
def sformL : List Nat := [0, 1, 2, 3, 4, 2, 5, 6, 7, 8, 9, 10, 11, 12, 13]
theorem sort_all : ∀ k : Nat, k < 69 → sortL.getD k 0 < 15 ∧ formL.getD k 0 = sformL.getD (sortL.getD k 0) 0 := by decide
theorem sort_of {op : Int} (h : isOp op = true) : sortF op < 15 ∧ formF op = sformL.getD (sortF op) 0 ∧ rsortF op = sortF op := by
  simp only [isOp, Bool.and_eq_true, decide_eq_true_eq] at h
  obtain ⟨a, b⟩ := sort_all (op - 1).toNat (by omega)
  exact ⟨a, b, by unfold rsortF sortF; rw [sort_same]⟩
def i0 (i : Inst) : Inst := ⟨i.op, 0, 0, 0, 0, 0, i.aq, i.rl⟩
theorem round0 {i : Inst} (g : Good i) (hi : 0 ≤ i.imm ∧ i.imm < 4294967296) (hs : sortF i.op = 0) (hr : rsortF i.op = 0) (hf : formF i.op = 0) : fbV (lV (some (partsL i))) (i0 i) = false ∧ fiV (lV (some (partsL i))) (i0 i) = i := by
  obtain ⟨r1, q1⟩ := reg_xL g.fits.rd
  have z2 : i.rs1 = 0 := g.rs10 (by rw [hf]; rfl)
  have z3 : i.rs2 = 0 := g.rs20 (by rw [hf]; rfl)
  have z4 : i.csr = 0 := g.csr0 (by rw [hf]; rfl)
  have hl := g.lay (by rw [hf]; rfl)
  rw [hf] at hl
  have hm := layU_mod hi (show (layV 85 i.imm).2 = true from hl)
  have hd : i.imm.fdiv 4096 = i.imm / 4096 := Int.fdiv_eq_ediv_of_nonneg _ (by decide)
  obtain ⟨n5, q5⟩ := num_plL (w := i.imm.fdiv 4096) (by rw [hd]; omega)
  have r5 : IntKind.u32.wrap (numN (bs (plL (i.imm.fdiv 4096))) * 4096) = i.imm := by rw [n5, hd, IntKind.wrap_u32]; omega
  unfold fbV fiV partsL
  simp only [show rsortF (i0 i).op = 0 from hr, hs, nxV_lV, tlV_lV, emV_lV, nxL, tlL, emL, r1, q1, r5, q5, Bool.false_or, Bool.or_false]
  have fin : (⟨i.op, i.rd, 0, 0, 0, i.imm, i.aq, i.rl⟩ : Inst) = i := by
    obtain ⟨op, rd, rs1, rs2, csr, imm, aq, rl⟩ := i
    simp only at z2 z3 z4
    simp only [z2, z3, z4]
  first | exact ⟨rfl, fin⟩ | exact ⟨trivial, fin⟩ | exact fin
theorem round1 {i : Inst} (g : Good i) (hi : 0 ≤ i.imm ∧ i.imm < 4294967296) (hs : sortF i.op = 1) (hr : rsortF i.op = 1) (hf : formF i.op = 1) : fbV (lV (some (partsL i))) (i0 i) = false ∧ fiV (lV (some (partsL i))) (i0 i) = i := by
  obtain ⟨r1, q1⟩ := reg_xL g.fits.rd
  have z2 : i.rs1 = 0 := g.rs10 (by rw [hf]; rfl)
  have z3 : i.rs2 = 0 := g.rs20 (by rw [hf]; rfl)
  have z4 : i.csr = 0 := g.csr0 (by rw [hf]; rfl)
  obtain ⟨r5, q5⟩ := num_sgL hi
  unfold fbV fiV partsL
  simp only [show rsortF (i0 i).op = 1 from hr, hs, nxV_lV, tlV_lV, emV_lV, nxL, tlL, emL, r1, q1, r5, q5, Bool.false_or, Bool.or_false]
  have fin : (⟨i.op, i.rd, 0, 0, 0, i.imm, i.aq, i.rl⟩ : Inst) = i := by
    obtain ⟨op, rd, rs1, rs2, csr, imm, aq, rl⟩ := i
    simp only at z2 z3 z4
    simp only [z2, z3, z4]
  first | exact ⟨rfl, fin⟩ | exact ⟨trivial, fin⟩ | exact fin
theorem round2 {i : Inst} (g : Good i) (hi : 0 ≤ i.imm ∧ i.imm < 4294967296) (hs : sortF i.op = 2) (hr : rsortF i.op = 2) (hf : formF i.op = 2) : fbV (lV (some (partsL i))) (i0 i) = false ∧ fiV (lV (some (partsL i))) (i0 i) = i := by
  obtain ⟨r1, q1⟩ := reg_xL g.fits.rd
  obtain ⟨t2, r2, q2⟩ := lies_of (sgL i.imm) (sgL_no (.inl rfl) _) g.fits.rs1
  have z3 : i.rs2 = 0 := g.rs20 (by rw [hf]; rfl)
  have z4 : i.csr = 0 := g.csr0 (by rw [hf]; rfl)
  obtain ⟨r5, q5⟩ := num_sgL hi
  unfold fbV fiV partsL
  simp only [show rsortF (i0 i).op = 2 from hr, hs, nxV_lV, tlV_lV, emV_lV, nxL, tlL, emL, r1, q1, r2, q2, t2, r5, q5, Bool.false_or, Bool.or_false]
  have fin : (⟨i.op, i.rd, i.rs1, 0, 0, i.imm, i.aq, i.rl⟩ : Inst) = i := by
    obtain ⟨op, rd, rs1, rs2, csr, imm, aq, rl⟩ := i
    simp only at z3 z4
    simp only [z3, z4]
  first | exact ⟨rfl, fin⟩ | exact ⟨trivial, fin⟩ | exact fin
theorem round3 {i : Inst} (g : Good i) (hi : 0 ≤ i.imm ∧ i.imm < 4294967296) (hs : sortF i.op = 3) (hr : rsortF i.op = 3) (hf : formF i.op = 3) : fbV (lV (some (partsL i))) (i0 i) = false ∧ fiV (lV (some (partsL i))) (i0 i) = i := by
  have z1 : i.rd = 0 := g.rd0 (by rw [hf]; rfl)
  obtain ⟨r2, q2⟩ := reg_xL g.fits.rs1
  obtain ⟨r3, q3⟩ := reg_xL g.fits.rs2
  have z4 : i.csr = 0 := g.csr0 (by rw [hf]; rfl)
  obtain ⟨r5, q5⟩ := num_sgL hi
  unfold fbV fiV partsL
  simp only [show rsortF (i0 i).op = 3 from hr, hs, nxV_lV, tlV_lV, emV_lV, nxL, tlL, emL, r2, q2, r3, q3, r5, q5, Bool.false_or, Bool.or_false]
  have fin : (⟨i.op, 0, i.rs1, i.rs2, 0, i.imm, i.aq, i.rl⟩ : Inst) = i := by
    obtain ⟨op, rd, rs1, rs2, csr, imm, aq, rl⟩ := i
    simp only at z1 z4
    simp only [z1, z4]
  first | exact ⟨rfl, fin⟩ | exact ⟨trivial, fin⟩ | exact fin
theorem round4 {i : Inst} (g : Good i) (hi : 0 ≤ i.imm ∧ i.imm < 4294967296) (hs : sortF i.op = 4) (hr : rsortF i.op = 4) (hf : formF i.op = 4) : fbV (lV (some (partsL i))) (i0 i) = false ∧ fiV (lV (some (partsL i))) (i0 i) = i := by
  have z1 : i.rd = 0 := g.rd0 (by rw [hf]; rfl)
  obtain ⟨t2, r2, q2⟩ := lies_of (sgL i.imm) (sgL_no (.inl rfl) _) g.fits.rs1
  obtain ⟨r3, q3⟩ := reg_xL g.fits.rs2
  have z4 : i.csr = 0 := g.csr0 (by rw [hf]; rfl)
  obtain ⟨r5, q5⟩ := num_sgL hi
  unfold fbV fiV partsL
  simp only [show rsortF (i0 i).op = 4 from hr, hs, nxV_lV, tlV_lV, emV_lV, nxL, tlL, emL, r2, q2, t2, r3, q3, r5, q5, Bool.false_or, Bool.or_false]
  have fin : (⟨i.op, 0, i.rs1, i.rs2, 0, i.imm, i.aq, i.rl⟩ : Inst) = i := by
    obtain ⟨op, rd, rs1, rs2, csr, imm, aq, rl⟩ := i
    simp only at z1 z4
    simp only [z1, z4]
  first | exact ⟨rfl, fin⟩ | exact ⟨trivial, fin⟩ | exact fin
theorem round5 {i : Inst} (g : Good i) (hi : 0 ≤ i.imm ∧ i.imm < 4294967296) (hs : sortF i.op = 5) (hr : rsortF i.op = 5) (hf : formF i.op = 2) : fbV (lV (some (partsL i))) (i0 i) = false ∧ fiV (lV (some (partsL i))) (i0 i) = i := by
  obtain ⟨r1, q1⟩ := reg_xL g.fits.rd
  obtain ⟨r2, q2⟩ := reg_xL g.fits.rs1
  have z3 : i.rs2 = 0 := g.rs20 (by rw [hf]; rfl)
  have z4 : i.csr = 0 := g.csr0 (by rw [hf]; rfl)
  obtain ⟨r5, q5⟩ := num_sgL hi
  unfold fbV fiV partsL
  simp only [show rsortF (i0 i).op = 5 from hr, hs, nxV_lV, tlV_lV, emV_lV, nxL, tlL, emL, r1, q1, r2, q2, r5, q5, Bool.false_or, Bool.or_false]
  have fin : (⟨i.op, i.rd, i.rs1, 0, 0, i.imm, i.aq, i.rl⟩ : Inst) = i := by
    obtain ⟨op, rd, rs1, rs2, csr, imm, aq, rl⟩ := i
    simp only at z3 z4
    simp only [z3, z4]
  first | exact ⟨rfl, fin⟩ | exact ⟨trivial, fin⟩ | exact fin
theorem round6 {i : Inst} (g : Good i) (hi : 0 ≤ i.imm ∧ i.imm < 4294967296) (hs : sortF i.op = 6) (hr : rsortF i.op = 6) (hf : formF i.op = 5) : fbV (lV (some (partsL i))) (i0 i) = false ∧ fiV (lV (some (partsL i))) (i0 i) = i := by
  obtain ⟨r1, q1⟩ := reg_xL g.fits.rd
  obtain ⟨r2, q2⟩ := reg_xL g.fits.rs1
  have z3 : i.rs2 = 0 := g.rs20 (by rw [hf]; rfl)
  have z4 : i.csr = 0 := g.csr0 (by rw [hf]; rfl)
  obtain ⟨r5, q5⟩ := num_plL hi
  unfold fbV fiV partsL
  simp only [show rsortF (i0 i).op = 6 from hr, hs, nxV_lV, tlV_lV, emV_lV, nxL, tlL, emL, r1, q1, r2, q2, r5, q5, Bool.false_or, Bool.or_false]
  have fin : (⟨i.op, i.rd, i.rs1, 0, 0, i.imm, i.aq, i.rl⟩ : Inst) = i := by
    obtain ⟨op, rd, rs1, rs2, csr, imm, aq, rl⟩ := i
    simp only at z3 z4
    simp only [z3, z4]
  first | exact ⟨rfl, fin⟩ | exact ⟨trivial, fin⟩ | exact fin
theorem round7 {i : Inst} (g : Good i) (hi : 0 ≤ i.imm ∧ i.imm < 4294967296) (hs : sortF i.op = 7) (hr : rsortF i.op = 7) (hf : formF i.op = 6) : fbV (lV (some (partsL i))) (i0 i) = false ∧ fiV (lV (some (partsL i))) (i0 i) = i := by
  obtain ⟨r1, q1⟩ := reg_xL g.fits.rd
  obtain ⟨r2, q2⟩ := reg_xL g.fits.rs1
  obtain ⟨r3, q3⟩ := reg_xL g.fits.rs2
  have z4 : i.csr = 0 := g.csr0 (by rw [hf]; rfl)
  have z5 : i.imm = 0 := g.imm0 (by rw [hf]; rfl)
  unfold fbV fiV partsL
  simp only [show rsortF (i0 i).op = 7 from hr, hs, nxV_lV, tlV_lV, emV_lV, nxL, tlL, emL, r1, q1, r2, q2, r3, q3, Bool.false_or, Bool.or_false]
  have fin : (⟨i.op, i.rd, i.rs1, i.rs2, 0, 0, i.aq, i.rl⟩ : Inst) = i := by
    obtain ⟨op, rd, rs1, rs2, csr, imm, aq, rl⟩ := i
    simp only at z4 z5
    simp only [z4, z5]
  first | exact ⟨rfl, fin⟩ | exact ⟨trivial, fin⟩ | exact fin
theorem round8 {i : Inst} (g : Good i) (hi : 0 ≤ i.imm ∧ i.imm < 4294967296) (hs : sortF i.op = 8) (hr : rsortF i.op = 8) (hf : formF i.op = 7) : fbV (lV (some (partsL i))) (i0 i) = false ∧ fiV (lV (some (partsL i))) (i0 i) = i := by
  have z1 : i.rd = 0 := g.rd0 (by rw [hf]; rfl)
  have z2 : i.rs1 = 0 := g.rs10 (by rw [hf]; rfl)
  have z3 : i.rs2 = 0 := g.rs20 (by rw [hf]; rfl)
  have z4 : i.csr = 0 := g.csr0 (by rw [hf]; rfl)
  have hl := g.lay (by rw [hf]; rfl)
  rw [hf] at hl
  have hm : i.imm < 256 := of_decide_eq_true (show decide (i.imm < 256) = true from hl)
  have k1 := bit4 i.imm 4
  have k2 := bit4 i.imm 0
  obtain ⟨n5, q5⟩ := num_plL (w := bitV i.imm 4 4) (by omega)
  obtain ⟨n6, q6⟩ := num_plL (w := bitV i.imm 0 4) (by omega)
  have r5 : bits .or .u32 (IntKind.u32.wrap (numN (bs (plL (bitV i.imm 4 4))) * 16)) (numN (bs (plL (bitV i.imm 0 4)))) = i.imm := by
    rw [n5, n6]
    have := fence_all i.imm.toNat (by omega)
    rwa [show ((i.imm.toNat : Nat) : Int) = i.imm by omega] at this
  unfold fbV fiV partsL
  simp only [show rsortF (i0 i).op = 8 from hr, hs, nxV_lV, tlV_lV, emV_lV, nxL, tlL, emL, r5, q5, q6, Bool.false_or, Bool.or_false]
  have fin : (⟨i.op, 0, 0, 0, 0, i.imm, i.aq, i.rl⟩ : Inst) = i := by
    obtain ⟨op, rd, rs1, rs2, csr, imm, aq, rl⟩ := i
    simp only at z1 z2 z3 z4
    simp only [z1, z2, z3, z4]
  first | exact ⟨rfl, fin⟩ | exact ⟨trivial, fin⟩ | exact fin
theorem round9 {i : Inst} (g : Good i) (hr : rsortF i.op = 9) (hf : formF i.op = 8) : fbV (lV none) (i0 i) = false ∧ fiV (lV none) (i0 i) = i := by
  have z1 : i.rd = 0 := g.rd0 (by rw [hf]; rfl)
  have z2 : i.rs1 = 0 := g.rs10 (by rw [hf]; rfl)
  have z3 : i.rs2 = 0 := g.rs20 (by rw [hf]; rfl)
  have z4 : i.csr = 0 := g.csr0 (by rw [hf]; rfl)
  have z5 : i.imm = 0 := g.imm0 (by rw [hf]; rfl)
  unfold fbV fiV
  simp only [show rsortF (i0 i).op = 9 from hr]
  have fin : (⟨i.op, 0, 0, 0, 0, 0, i.aq, i.rl⟩ : Inst) = i := by
    obtain ⟨op, rd, rs1, rs2, csr, imm, aq, rl⟩ := i
    simp only at z1 z2 z3 z4 z5
    simp only [z1, z2, z3, z4, z5]
  first | exact ⟨rfl, fin⟩ | exact ⟨trivial, fin⟩ | exact fin
theorem round10 {i : Inst} (g : Good i) (hi : 0 ≤ i.imm ∧ i.imm < 4294967296) (hs : sortF i.op = 10) (hr : rsortF i.op = 10) (hf : formF i.op = 9) : fbV (lV (some (partsL i))) (i0 i) = false ∧ fiV (lV (some (partsL i))) (i0 i) = i := by
  have z1 : i.rd = 0 := g.rd0 (by rw [hf]; rfl)
  obtain ⟨r2, q2⟩ := reg_xL g.fits.rs1
  obtain ⟨r3, q3⟩ := reg_xL g.fits.rs2
  have z4 : i.csr = 0 := g.csr0 (by rw [hf]; rfl)
  have z5 : i.imm = 0 := g.imm0 (by rw [hf]; rfl)
  unfold fbV fiV partsL
  simp only [show rsortF (i0 i).op = 10 from hr, hs, nxV_lV, tlV_lV, emV_lV, nxL, tlL, emL, r2, q2, r3, q3, Bool.false_or, Bool.or_false]
  have fin : (⟨i.op, 0, i.rs1, i.rs2, 0, 0, i.aq, i.rl⟩ : Inst) = i := by
    obtain ⟨op, rd, rs1, rs2, csr, imm, aq, rl⟩ := i
    simp only at z1 z4 z5
    simp only [z1, z4, z5]
  first | exact ⟨rfl, fin⟩ | exact ⟨trivial, fin⟩ | exact fin
theorem round11 {i : Inst} (g : Good i) (hi : 0 ≤ i.imm ∧ i.imm < 4294967296) (hs : sortF i.op = 11) (hr : rsortF i.op = 11) (hf : formF i.op = 10) : fbV (lV (some (partsL i))) (i0 i) = false ∧ fiV (lV (some (partsL i))) (i0 i) = i := by
  obtain ⟨r1, q1⟩ := reg_xL g.fits.rd
  obtain ⟨r2, q2⟩ := reg_xL g.fits.rs1
  have z3 : i.rs2 = 0 := g.rs20 (by rw [hf]; rfl)
  obtain ⟨r4, q4⟩ := csr_hxL g.csr
  have z5 : i.imm = 0 := g.imm0 (by rw [hf]; rfl)
  unfold fbV fiV partsL
  simp only [show rsortF (i0 i).op = 11 from hr, hs, nxV_lV, tlV_lV, emV_lV, nxL, tlL, emL, r1, q1, r2, q2, r4, q4, Bool.false_or, Bool.or_false]
  have fin : (⟨i.op, i.rd, i.rs1, 0, i.csr, 0, i.aq, i.rl⟩ : Inst) = i := by
    obtain ⟨op, rd, rs1, rs2, csr, imm, aq, rl⟩ := i
    simp only at z3 z5
    simp only [z3, z5]
  first | exact ⟨rfl, fin⟩ | exact ⟨trivial, fin⟩ | exact fin
theorem round12 {i : Inst} (g : Good i) (hi : 0 ≤ i.imm ∧ i.imm < 4294967296) (hs : sortF i.op = 12) (hr : rsortF i.op = 12) (hf : formF i.op = 11) : fbV (lV (some (partsL i))) (i0 i) = false ∧ fiV (lV (some (partsL i))) (i0 i) = i := by
  obtain ⟨r1, q1⟩ := reg_xL g.fits.rd
  have z2 : i.rs1 = 0 := g.rs10 (by rw [hf]; rfl)
  have z3 : i.rs2 = 0 := g.rs20 (by rw [hf]; rfl)
  obtain ⟨r4, q4⟩ := csr_hxL g.csr
  obtain ⟨r5, q5⟩ := num_plL hi
  unfold fbV fiV partsL
  simp only [show rsortF (i0 i).op = 12 from hr, hs, nxV_lV, tlV_lV, emV_lV, nxL, tlL, emL, r1, q1, r4, q4, r5, q5, Bool.false_or, Bool.or_false]
  have fin : (⟨i.op, i.rd, 0, 0, i.csr, i.imm, i.aq, i.rl⟩ : Inst) = i := by
    obtain ⟨op, rd, rs1, rs2, csr, imm, aq, rl⟩ := i
    simp only at z2 z3
    simp only [z2, z3]
  first | exact ⟨rfl, fin⟩ | exact ⟨trivial, fin⟩ | exact fin
theorem round13 {i : Inst} (g : Good i) (hi : 0 ≤ i.imm ∧ i.imm < 4294967296) (hs : sortF i.op = 13) (hr : rsortF i.op = 13) (hf : formF i.op = 12) : fbV (lV (some (partsL i))) (i0 i) = false ∧ fiV (lV (some (partsL i))) (i0 i) = i := by
  obtain ⟨r1, q1⟩ := reg_xL g.fits.rd
  obtain ⟨t2, r2, q2⟩ := lies_of [] (by simp) g.fits.rs1
  rw [List.nil_append] at t2 r2 q2
  have z3 : i.rs2 = 0 := g.rs20 (by rw [hf]; rfl)
  have z4 : i.csr = 0 := g.csr0 (by rw [hf]; rfl)
  have z5 : i.imm = 0 := g.imm0 (by rw [hf]; rfl)
  unfold fbV fiV partsL
  simp only [show rsortF (i0 i).op = 13 from hr, hs, nxV_lV, tlV_lV, emV_lV, nxL, tlL, emL, r1, q1, r2, q2, Bool.false_or, Bool.or_false]
  have fin : (⟨i.op, i.rd, i.rs1, 0, 0, 0, i.aq, i.rl⟩ : Inst) = i := by
    obtain ⟨op, rd, rs1, rs2, csr, imm, aq, rl⟩ := i
    simp only at z3 z4 z5
    simp only [z3, z4, z5]
  first | exact ⟨rfl, fin⟩ | exact ⟨trivial, fin⟩ | exact fin
theorem round14 {i : Inst} (g : Good i) (hi : 0 ≤ i.imm ∧ i.imm < 4294967296) (hs : sortF i.op = 14) (hr : rsortF i.op = 14) (hf : formF i.op = 13) : fbV (lV (some (partsL i))) (i0 i) = false ∧ fiV (lV (some (partsL i))) (i0 i) = i := by
  obtain ⟨r1, q1⟩ := reg_xL g.fits.rd
  obtain ⟨t2, r2, q2⟩ := lies_of [] (by simp) g.fits.rs1
  rw [List.nil_append] at t2 r2 q2
  obtain ⟨r3, q3⟩ := reg_xL g.fits.rs2
  have z4 : i.csr = 0 := g.csr0 (by rw [hf]; rfl)
  have z5 : i.imm = 0 := g.imm0 (by rw [hf]; rfl)
  unfold fbV fiV partsL
  simp only [show rsortF (i0 i).op = 14 from hr, hs, nxV_lV, tlV_lV, emV_lV, nxL, tlL, emL, r1, q1, r2, q2, r3, q3, Bool.false_or, Bool.or_false]
  have fin : (⟨i.op, i.rd, i.rs1, i.rs2, 0, 0, i.aq, i.rl⟩ : Inst) = i := by
    obtain ⟨op, rd, rs1, rs2, csr, imm, aq, rl⟩ := i
    simp only at z4 z5
    simp only [z4, z5]
  first | exact ⟨rfl, fin⟩ | exact ⟨trivial, fin⟩ | exact fin
end Go.Proofs.YtgkicojmgokinaaGreatDoor.Ab
namespace Go.Proofs.YtgkicojmgokinaaGreatDoor.Ab
open Go Go.RowKit
set_option linter.unusedVariables false
set_option linter.unusedSimpArgs false
set_option maxRecDepth 100000
theorem round_all {i : Inst} (g : Good i) (hi : 0 ≤ i.imm ∧ i.imm < 4294967296) :
    (partsL i = [] ∧ fbV (lV none) (i0 i) = false ∧ fiV (lV none) (i0 i) = i) ∨ (partsL i ≠ [] ∧ fbV (lV (some (partsL i))) (i0 i) = false ∧ fiV (lV (some (partsL i))) (i0 i) = i) := by
  obtain ⟨h1, h2, h3⟩ := sort_of g.fits.op
  have ne : ∀ n, sortF i.op = n → n < 15 → n ≠ 9 → partsL i ≠ [] := by
    intro n hn hlt h9
    unfold partsL
    rw [hn]
    match n, hlt, h9 with
    | 0, _, _ => simp
    | 1, _, _ => simp
    | 2, _, _ => simp
    | 3, _, _ => simp
    | 4, _, _ => simp
    | 5, _, _ => simp
    | 6, _, _ => simp
    | 7, _, _ => simp
    | 8, _, _ => simp
    | 10, _, _ => simp
    | 11, _, _ => simp
    | 12, _, _ => simp
    | 13, _, _ => simp
    | 14, _, _ => simp
  rw [h3.symm] at h2
  match hn : sortF i.op, h1 with
  | 0, _ => exact .inr ⟨ne 0 hn (by decide) (by decide), round0 g hi hn (h3.trans hn) (by rw [h2, h3, hn]; rfl)⟩
  | 1, _ => exact .inr ⟨ne 1 hn (by decide) (by decide), round1 g hi hn (h3.trans hn) (by rw [h2, h3, hn]; rfl)⟩
  | 2, _ => exact .inr ⟨ne 2 hn (by decide) (by decide), round2 g hi hn (h3.trans hn) (by rw [h2, h3, hn]; rfl)⟩
  | 3, _ => exact .inr ⟨ne 3 hn (by decide) (by decide), round3 g hi hn (h3.trans hn) (by rw [h2, h3, hn]; rfl)⟩
  | 4, _ => exact .inr ⟨ne 4 hn (by decide) (by decide), round4 g hi hn (h3.trans hn) (by rw [h2, h3, hn]; rfl)⟩
  | 5, _ => exact .inr ⟨ne 5 hn (by decide) (by decide), round5 g hi hn (h3.trans hn) (by rw [h2, h3, hn]; rfl)⟩
  | 6, _ => exact .inr ⟨ne 6 hn (by decide) (by decide), round6 g hi hn (h3.trans hn) (by rw [h2, h3, hn]; rfl)⟩
  | 7, _ => exact .inr ⟨ne 7 hn (by decide) (by decide), round7 g hi hn (h3.trans hn) (by rw [h2, h3, hn]; rfl)⟩
  | 8, _ => exact .inr ⟨ne 8 hn (by decide) (by decide), round8 g hi hn (h3.trans hn) (by rw [h2, h3, hn]; rfl)⟩
  | 9, _ => exact .inl ⟨(by unfold partsL; rw [hn] <;> rfl), round9 g (h3.trans hn) (by rw [h2, h3, hn]; rfl)⟩
  | 10, _ => exact .inr ⟨ne 10 hn (by decide) (by decide), round10 g hi hn (h3.trans hn) (by rw [h2, h3, hn]; rfl)⟩
  | 11, _ => exact .inr ⟨ne 11 hn (by decide) (by decide), round11 g hi hn (h3.trans hn) (by rw [h2, h3, hn]; rfl)⟩
  | 12, _ => exact .inr ⟨ne 12 hn (by decide) (by decide), round12 g hi hn (h3.trans hn) (by rw [h2, h3, hn]; rfl)⟩
  | 13, _ => exact .inr ⟨ne 13 hn (by decide) (by decide), round13 g hi hn (h3.trans hn) (by rw [h2, h3, hn]; rfl)⟩
  | 14, _ => exact .inr ⟨ne 14 hn (by decide) (by decide), round14 g hi hn (h3.trans hn) (by rw [h2, h3, hn]; rfl)⟩
theorem fin_of {l : Value} {i : Inst} {s : ByteArray} (he : encE i = 0) (ho : isOp i.op = true) (hb : fbV l (i0 i) = false) (hf : fiV l (i0 i) = i) (hs : bs (textL i) = s) : finP l (i0 i) s = some i := by
  unfold finP
  have h0 : ((i0 i).op == 0) = false := by
    rw [beq_eq_false_iff_ne]
    intro e
    have e : i.op = 0 := e
    rw [e] at ho
    exact absurd ho (by decide)
  rw [h0, hb, hf, he]
  have : ((textS i).toList == s.toList) = true := by rw [← hs]; exact beq_self_eq_true _
  rw [this]
  rfl
theorem trip {i : Inst} (h : encE i = 0) (hi : 0 ≤ i.imm ∧ i.imm < 4294967296) : parseP (bs (textL i)) = some i := by
  have g := enc_good h
  obtain ⟨n1, n2, n3⟩ := name_ok (aq := i.aq) (rl := i.rl) g.fits.op g.aq0
  have hi0 : ∀ s : ByteArray, cut1 s csp = bs (nameM i.op i.aq i.rl) → i0P s = i0 i := by
    intro s hs
    have e : nameP s = nameQ (bs (nameM i.op i.aq i.rl)) := by show nameQ (cut1 s csp) = _; rw [hs]
    unfold i0P i0
    rw [e, n2, n3]
  rcases round_all g hi with ⟨hp, hb, hf⟩ | ⟨hp, hb, hf⟩
  · have hN : partsN i = true := by unfold partsN; rw [hp]; rfl
    have ht : textL i = nameM i.op i.aq i.rl := by unfold textL nameM; rw [hN, cond_true, List.append_nil]
    have hc := cut_miss 32 _ n1
    have e1 : cut1 (bs (textL i)) csp = bs (nameM i.op i.aq i.rl) := by rw [ht]; show bs (Lib.cut (nameM i.op i.aq i.rl) [32]).1 = _; rw [hc]
    have e3 : cut3 (bs (textL i)) csp = false := by rw [ht]; show (Lib.cut (nameM i.op i.aq i.rl) [32]).2.2 = _; rw [hc]
    unfold parseP
    rw [e3, hi0 _ e1]
    exact fin_of (l := lV none) h g.fits.op hb hf rfl
  · have hN : partsN i = false := by
      unfold partsN
      cases hl : partsL i with
      | nil => exact (hp hl).elim
      | cons x r => rfl
    have ht : textL i = nameM i.op i.aq i.rl ++ 32 :: Lib.join (partsL i) [44, 32] := by unfold textL nameM; rw [hN, cond_false]
    have hc := cut_hit 32 _ (Lib.join (partsL i) [44, 32]) n1
    have e1 : cut1 (bs (textL i)) csp = bs (nameM i.op i.aq i.rl) := by rw [ht]; show bs (Lib.cut (nameM i.op i.aq i.rl ++ 32 :: Lib.join (partsL i) [44, 32]) [32]).1 = _; rw [hc]
    have e2 : cut2 (bs (textL i)) csp = bs (Lib.join (partsL i) [44, 32]) := by rw [ht]; show bs (Lib.cut (nameM i.op i.aq i.rl ++ 32 :: Lib.join (partsL i) [44, 32]) [32]).2.1 = _; rw [hc]
    have e3 : cut3 (bs (textL i)) csp = true := by rw [ht]; show (Lib.cut (nameM i.op i.aq i.rl ++ 32 :: Lib.join (partsL i) [44, 32]) [32]).2.2 = _; rw [hc]
    have hsp := splitL_join hp (parts_no i (.inl rfl))
    have hl : lsP true (bs (textL i)) = lV (some (partsL i)) := by
      show gs 1 (splC (cut2 (bs (textL i)) csp) ccs) (splN (cut2 (bs (textL i)) csp) ccs) = _
      rw [e2]
      show gs 1 ((splitL (Lib.join (partsL i) [44, 32]) [44, 32]).map sv) (splitL (Lib.join (partsL i) [44, 32]) [44, 32]).length = _
      rw [hsp]; rfl
    unfold parseP
    rw [e3, hi0 _ e1, hl]
    exact fin_of h g.fits.op hb hf rfl
end Go.Proofs.YtgkicojmgokinaaGreatDoor.Ab
