/- Trimmed: AsmBits, AsmFormat, AsmHex -/
import Derived.Laws.BitsLemmas
import Derived.Lib.EndianBits
import Derived.Test.YtgkicojmgokinaaGreatDoorShelf
import Derived.Lib.Walk
import Derived.Lib.ItoaMem
import Derived.Lib.AppendIntMem
import Derived.WalkKit
import Derived.BigCall
import Derived.BigGuard
import Derived.Lib.Strings
import Derived.Lib.ConvBytes
import Derived.Lib.AtoiAllMem
import Derived.Lib.AtoiErrMem
import Derived.Lib.ParseIntBMem
import Derived.Lib.Hide
import Derived.Laws.Strings3
import Derived.Laws.Closers25
import Derived.Laws.Closers25b
namespace Go.Proofs.YtgkicojmgokinaaGreatDoor.Ab
open Go
set_option linter.unusedVariables false
set_option linter.unusedSimpArgs false
theorem or_add_nat (a : Nat) : ∀ b : Nat, a &&& b = 0 → a ||| b = a + b := by
  induction a using Nat.strongRecOn with
  | ind a ih =>
    intro b h
    by_cases h0 : a = 0
    · subst h0; simp
    · have hd : (a / 2) &&& (b / 2) = 0 := by rw [← Nat.and_div_two, h]
      have ih' := ih (a / 2) (by omega) (b / 2) hd
      have e1 : (a ||| b) / 2 = a / 2 + b / 2 := by rw [Nat.or_div_two, ih']
      have ha := Nat.mod_two_eq_zero_or_one a
      have hb := Nat.mod_two_eq_zero_or_one b
      have hor := Nat.or_mod_two_eq_one (a := a) (b := b)
      have hand := Nat.and_mod_two_eq_one (a := a) (b := b)
      rw [h] at hand
      have hz : ¬ (a % 2 = 1 ∧ b % 2 = 1) := fun hh => by have := hand.2 hh; omega
      have hc := Nat.mod_two_eq_zero_or_one (a ||| b)
      have e2 : (a ||| b) % 2 = a % 2 + b % 2 := by
        rcases ha with ha | ha <;> rcases hb with hb | hb
        · have : ¬ (a ||| b) % 2 = 1 := fun hh => by have := hor.1 hh; omega
          omega
        · have := hor.2 (.inr hb); omega
        · have := hor.2 (.inl ha); omega
        · exact absurd ⟨ha, hb⟩ hz
      omega
structure In (x : Int) (m : Nat) : Prop where
  lo : 0 ≤ x
  hi : x < 4294967296
  sub : x.toNat &&& m = x.toNat
theorem In.zero (m : Nat) : In 0 m := ⟨by omega, by omega, by simp⟩
theorem In.wrap {x : Int} {m : Nat} (h : In x m) : IntKind.u32.wrap x = x := by rw [IntKind.wrap_u32]; have := h.lo; have := h.hi; omega
theorem In.field {c d : Int} {m : Nat} (n k : Nat) (hd : d = 2 ^ k) (hm : m = (2 ^ n - 1) * 2 ^ k) (h : n + k ≤ 32) (h0 : 0 ≤ c) (h1 : c < 2 ^ n) : In (c * d) m := by
  obtain ⟨a, rfl⟩ := Int.eq_ofNat_of_zero_le h0
  have ha : a < 2 ^ n := by exact_mod_cast h1
  have e : ((a : Int) * d) = ((a * 2 ^ k : Nat) : Int) := by rw [hd]; simp
  have hlt : a * 2 ^ k < 2 ^ 32 := by
    have h2 : a * 2 ^ k < 2 ^ n * 2 ^ k := Nat.mul_lt_mul_of_pos_right ha (Nat.two_pow_pos k)
    have h3 : 2 ^ n * 2 ^ k ≤ 2 ^ 32 := by rw [← Nat.pow_add]; exact Nat.pow_le_pow_right (by decide) h
    omega
  refine ⟨by rw [e]; omega, by rw [e]; omega, ?_⟩
  rw [e, hm, Int.toNat_natCast, ← Nat.shiftLeft_eq, ← Nat.shiftLeft_eq, ← Nat.shiftLeft_and_distrib, Nat.and_two_pow_sub_one_eq_mod, Nat.mod_eq_of_lt ha]
theorem In.or {x y : Int} {m m' : Nat} (hx : In x m) (hy : In y m') (h : m &&& m' = 0) : bits .or .u32 x y = x + y ∧ In (x + y) (m ||| m') := by
  obtain ⟨x0, x1, xs⟩ := hx
  obtain ⟨y0, y1, ys⟩ := hy
  obtain ⟨a, rfl⟩ := Int.eq_ofNat_of_zero_le x0
  obtain ⟨b, rfl⟩ := Int.eq_ofNat_of_zero_le y0
  rw [Int.toNat_natCast] at xs ys
  have ha : a < 2 ^ 32 := by omega
  have hb : b < 2 ^ 32 := by omega
  have hz : a &&& b = 0 := by
    rw [← xs, ← ys, show a &&& m &&& (b &&& m') = (a &&& b) &&& (m &&& m') by
      rw [Nat.and_assoc, ← Nat.and_assoc m b m', Nat.and_comm m b, Nat.and_assoc b m m', ← Nat.and_assoc], h, Nat.and_zero]
  have e := or_add_nat a b hz
  have hl := Nat.or_lt_two_pow ha hb
  refine ⟨?_, by omega, by rw [← Int.natCast_add, ← e]; omega, ?_⟩
  · rw [(bits_nat .u32 32 (by decide) wraps_u32 a b ha hb).2, e, Int.natCast_add]
  · rw [← Int.natCast_add, Int.toNat_natCast, ← e]
    apply Nat.eq_of_testBit_eq
    intro i
    have t1 := congrArg (fun n => Nat.testBit n i) xs
    have t2 := congrArg (fun n => Nat.testBit n i) ys
    simp only [Nat.testBit_and, Nat.testBit_or] at t1 t2 ⊢
    revert t1 t2
    cases a.testBit i <;> cases b.testBit i <;> cases m.testBit i <;> cases m'.testBit i <;> simp
theorem and_mask {x d m : Int} (n : Nat) (hm : m = 2 ^ n - 1) (hn : n ≤ 32) (hd : 0 < d) (h0 : 0 ≤ x) (h1 : x < 4294967296) : bits .and .u32 (x.fdiv d) m = x / d % 2 ^ n := by
  have e : x.fdiv d = x / d := Int.fdiv_eq_ediv_of_nonneg _ (by omega)
  have g0 : 0 ≤ x / d := Int.ediv_nonneg h0 (by omega)
  have g1 : x / d ≤ x := Int.ediv_le_self _ h0
  rw [e, hm, bits_mask .u32 32 (by decide) wraps_u32 n hn _ g0 (by omega)]
end Go.Proofs.YtgkicojmgokinaaGreatDoor.Ab

namespace Go.Proofs.YtgkicojmgokinaaGreatDoor
open Go Go.Shelf Go.RowKit Go.Sort Go.Lib
set_option linter.unusedVariables false
set_option linter.unusedSimpArgs false
set_option maxHeartbeats 6400000 in
set_option maxRecDepth 100000 in
theorem formatUint_inner (u : Nat) (hu64 : u < 18446744073709551616) (w : World) (htab : Lib.TabIs Tryz.prog w "internal/strconv.uint64pow10" .u64 Lib.pow10Tab) :
    Calls Tryz.prog 113 #[.int .u64 u, .int .i64 10] w fun e w' => e = .returned (.string ⟨(Lib.decDigits u).toArray⟩) ∧ ∃ k os, w' = grow (w.drewN k) os := by
  by_cases hs : u < 100
  · go_enter Tryz.func113, Tryz.ntmps113
    go_wp2_with (go_at_call 116; refine (Tryz.internal_strconv_small u hs _).mono ?_; rintro e w' ⟨rfl, rfl⟩)
    go_ret
    exact ⟨rfl, 0, #[], by simp [World.drewN_zero]⟩
  · have hu1 : 1 ≤ u := by omega
    have hnd20 : Lib.nDigits u ≤ 20 := by have := Lib.numDigits_eq u hu1 hu64; split at this <;> omega
    have hb3 : Lib.nDigits u ≤ 24 := by omega
    have hal : Tryz.prog.arrayLen 161 = 24 := by simp [Program.arrayLen, Tryz.underlying161]
    have hsl1 : ∀ W, (Instr.sliceAt 161 (.pointer (some ⟨w.heap.size, 0, none⟩)) none (some (.int .i64 (Lib.nDigits u : Int))) none).run Tryz.prog W = .ok (.slice (some ⟨w.heap.size, 0, none⟩) (Lib.nDigits u) 24) W := fun W => by
      rw [run_sliceAt_array_h W 161 ⟨w.heap.size, 0, none⟩ (by simp [Program.arrayLen, Program.elem, Tryz.underlying161]) .i64 (Lib.nDigits u : Int) (by omega) (by rw [hal]; omega)]
      go_simp
    have hH0 := Lib.holds_zero0 w 161 (Lib.nDigits u) (by omega)
    have hfmt := Tryz.internal_strconv_formatBase10 w.heap.size 0 24 u (Array.replicate (Lib.nDigits u) 0) (w.alloc (.cells Lib.zeros24 161)) hH0 (by rw [Array.size_replicate]; exact Lib.lt_pow_nDigits u) hu64 (by rw [Array.size_replicate]; omega)
    rw [Array.size_replicate] at hfmt
    have HH0 := Lib.hid hH0
    clear hH0 hal
    go_enter Tryz.func113, Tryz.ntmps113
    go_wp2_with (first
      | (go_at_call 117; refine (Tryz.internal_strconv_numDigits u hu1 hu64 _ (Lib.tabIs_alloc htab _)).mono ?_; rintro e w' ⟨rfl, rfl⟩))
    go_at_call 118
    refine hfmt.mono ?_
    rintro e w' ⟨rfl, k, v', dk, rfl, hF⟩
    have hcv : (convert 54 9 (.slice (some ⟨w.heap.size, 0, none⟩) (Lib.nDigits u) 24)).run Tryz.prog ((putRow (fun (b : UInt8) => Value.int .u8 (b.toNat : Int)) (w.alloc (.cells Lib.zeros24 161)) w.heap.size 0 dk).drewN k) = .ok (.string ⟨(Lib.decDigits u).toArray⟩) ((putRow (fun (b : UInt8) => Value.int .u8 (b.toNat : Int)) (w.alloc (.cells Lib.zeros24 161)) w.heap.size 0 dk).drewN k) := by
      have h := run_convert_bytes_back (P := Tryz.prog) ((putRow (fun (b : UInt8) => Value.int .u8 (b.toNat : Int)) (w.alloc (.cells Lib.zeros24 161)) w.heap.size 0 dk).drewN k) 54 9 5 ⟨w.heap.size, 0, none⟩ 24 (Lib.decDigits u) Tryz.underlying54 Tryz.underlying5 Tryz.underlying9 (fun j hj => by
        rw [Lib.row_is_numeral hF j hj, Lib.add_plain, World.cell?_drewN]
        exact cell?_putRow (fun (b : UInt8) => Value.int .u8 (b.toNat : Int)) _ w.heap.size 0 _ dk HH0.out (by rw [hF.size, Array.size_replicate]) j (by rw [hF.size]; rw [Lib.decDigits_length] at hj; exact hj))
      rw [Lib.decDigits_length] at h
      exact h
    go_wp2
    go_ret
    refine ⟨rfl, k, ?_⟩
    rw [alloc_eq_grow]
    obtain ⟨os', _, e⟩ := putRow_grow_new (fun (b : UInt8) => Value.int .u8 (b.toNat : Int)) w #[.cells Lib.zeros24 161] w.heap.size 0 dk (Nat.le_refl _)
    exact ⟨os', by rw [e]; rfl⟩
theorem formatUint (u : Nat) (hu64 : u < 18446744073709551616) (w : World) (htab : Lib.TabIs Tryz.prog w "internal/strconv.uint64pow10" .u64 Lib.pow10Tab) :
    Calls Tryz.prog 91 #[.int .u64 u, .int .i64 10] w fun e w' => e = .returned (.string ⟨(Lib.decDigits u).toArray⟩) ∧ ∃ k os, w' = grow (w.drewN k) os := by
  go_enter Tryz.func91, Tryz.ntmps91
  go_wp2_with (go_at_call 113; refine (formatUint_inner u hu64 _ htab).mono ?_; rintro e w' ⟨rfl, k, os, rfl⟩)
  go_ret
  exact ⟨rfl, k, os, rfl⟩
end Go.Proofs.YtgkicojmgokinaaGreatDoor

namespace Go.Proofs.YtgkicojmgokinaaGreatDoor
open Go Go.Shelf Go.RowKit
set_option linter.unusedVariables false
set_option linter.unusedSimpArgs false
def lowB (n : Nat) : Int := bits .or .u8 (n : Int) 32
def hexV (n : Nat) : Option Nat :=
  if 48 ≤ n ∧ n ≤ 57 then some (n - 48) else if 97 ≤ lowB n ∧ lowB n ≤ 102 then some ((lowB n).toNat - 87) else none
def parse16 (acc : Nat) : List UInt8 → Lib.NumEnd Nat
  | [] => .ok acc
  | c :: r => match hexV c.toNat with
    | none => Lib.NumEnd.syntax
    | some d => if 4095 < acc * 16 + d then .range else parse16 (acc * 16 + d) r
def parseHex (l : List UInt8) : Lib.NumEnd Nat := if l = [] then Lib.NumEnd.syntax else parse16 0 l
set_option maxHeartbeats 32000000 in
set_option maxRecDepth 100000 in
theorem parseHex_ne (t : ByteArray) (hne : t.size ≠ 0) (hmax : t.size ≤ 9223372036854775806) (w : World) :
    Calls Tryz.prog 131 #[.string t, .int .i64 16, .int .i64 12] w fun e w' => e = .returned (Lib.uintTupleM 179 4095 (parse16 0 t.data.toList)) ∧ w' = Lib.bytesWorld w 5 t := by
  have hemp : t.toList.isEmpty = false := by
    rw [← decide_eq_emptyBytes]
    exact decide_eq_false (fun h => hne (by rw [h]; rfl))
  have hcv := Lib.run_convert_string_bytes (P := Tryz.prog) w 9 54 5 t (u := .string) Tryz.underlying9 Tryz.underlying54 Tryz.underlying5
  have hB : ∀ j, j < t.size → (Lib.bytesWorld w 5 t).cell? ⟨w.heap.size, j, none⟩ = some (.int .u8 (t.data.toList.getD j 0).toNat) := fun j hj => Lib.bytesWorld_cell w 5 t j hj
  obtain ⟨W1, hW1⟩ : ∃ W1, W1 = Lib.bytesWorld w 5 t := ⟨_, rfl⟩
  rw [← hW1] at hcv hB ⊢
  clear hW1
  obtain ⟨bs, hL⟩ : ∃ bs, bs = t.data.toList := ⟨_, rfl⟩
  have hLn : bs.length = t.size := by rw [hL, Lib.size_eq]
  rw [← hL] at hB ⊢
  clear hL
  have hmv : IntKind.u64.wrap (IntKind.u64.wrap 4096 - 1) = 4095 := by
    rw [IntKind.wrap_u64, IntKind.wrap_u64]
    decide
  go_enter Tryz.func131, Tryz.ntmps131
  go_wp2
  go_loop [12, 13, 101] (fun vu vn vi => ∃ (k acc : Nat) (a : Int), vu = .bool false ∧ vn = .int .u64 a ∧ vi = .int .i64 k ∧ k ≤ t.size ∧ Hid (a = (acc : Int) ∧ acc < 4096 ∧ parse16 0 bs = parse16 acc (bs.drop k)))
    (fun _ _ vi => t.size - (intOf vi).toNat)
  case atStart => exact ⟨0, 0, 0, rfl, rfl, rfl, by omega, rfl, by omega, rfl⟩
  case round =>
    obtain ⟨k, acc, a, rfl, rfl, rfl, hk, hh⟩ := hrel
    obtain ⟨ha, hacc, hdec⟩ := hh.out
    clear hh
    have a0 : 0 ≤ a := by omega
    have a1 : a < 4096 := by omega
    by_cases hkn : k < t.size
    · have hc := hB k hkn
      have hdrop : bs.drop k = bs[k]'(by omega) :: bs.drop (k + 1) := List.drop_eq_getElem_cons (by omega)
      have hget : bs.getD k 0 = bs[k]'(by omega) := by simp [List.getD, List.getElem?_eq_getElem (show k < bs.length by omega)]
      rw [hdrop] at hdec
      rw [hget] at hc
      generalize bs[k]'(by omega) = c at hc hdec
      have hc256 : c.toNat < 256 := c.toNat_lt
      clear hB hdrop hget
      by_cases hdig : 48 ≤ c.toNat ∧ c.toNat ≤ 57
      · have hx : hexV c.toNat = some (c.toNat - 48) := by unfold hexV; rw [if_pos hdig]
        obtain ⟨hd0, hd1⟩ := hdig
        by_cases hov : 4095 < acc * 16 + (c.toNat - 48)
        · have hF : parse16 acc (c :: bs.drop (k + 1)) = .range := by simp [parse16, hx, hov]
          rw [hF] at hdec
          have iov : 4095 < a * 16 + ((c.toNat : Int) - 48) := by omega
          clear hacc hF hov ha hx
          go_wp2
          go_ret2
          exact ⟨rfl, rfl⟩
        · have hF : parse16 acc (c :: bs.drop (k + 1)) = parse16 (acc * 16 + (c.toNat - 48)) (bs.drop (k + 1)) := by simp [parse16, hx, hov]
          have HN : Hid (a * 16 + ((c.toNat : Int) - 48) = ((acc * 16 + (c.toNat - 48) : Nat) : Int) ∧ acc * 16 + (c.toNat - 48) < 4096 ∧ parse16 0 bs = parse16 (acc * 16 + (c.toNat - 48)) (bs.drop (k + 1))) := Lib.hid ⟨by omega, by omega, hdec.trans hF⟩
          have iov : a * 16 + ((c.toNat : Int) - 48) ≤ 4095 := by omega
          clear hacc hF hov hdec ha hx
          go_wp2
          refine ⟨⟨k + 1, acc * 16 + (c.toNat - 48), a * 16 + ((c.toNat : Int) - 48), rfl, (by first | rfl | (congr 1; omega)), (by first | rfl | (congr 1; omega)), by omega, HN⟩, by simp [intOf]; omega⟩
      · by_cases h95 : (c.toNat : Int) = 95
        · have hl95 : bits .or .u8 95 32 = 127 := by kernel_rfl
          have hx : hexV c.toNat = none := by
            have : c.toNat = 95 := by omega
            rw [this]
            exact (show hexV 95 = none by kernel_rfl)
          have hF : parse16 acc (c :: bs.drop (k + 1)) = Lib.NumEnd.syntax := by simp [parse16, hx]
          rw [hF] at hdec
          rw [h95] at hc
          have hlow : ∀ W, Calls Tryz.prog 148 #[.int .u8 95] W fun e w' => e = .returned (.int .u8 127) ∧ w' = W := fun W => by
            have := Tryz.internal_strconv_lower 95 W
            rwa [hl95] at this
          clear hacc hF ha hx hdig
          go_wp2_with (go_at_call 148; refine (hlow _).mono ?_; rintro e w' ⟨rfl, rfl⟩)
          all_goals go_ret2
          all_goals first | exact ⟨rfl, rfl⟩ | exact ⟨by rw [hdec]; rfl, rfl⟩
        obtain ⟨L, hL⟩ : ∃ L, bits .or .u8 (c.toNat : Int) 32 = L := ⟨_, rfl⟩
        have hlow : ∀ W, Calls Tryz.prog 148 #[.int .u8 (c.toNat : Int)] W fun e w' => e = .returned (.int .u8 L) ∧ w' = W := fun W => by
          have := Tryz.internal_strconv_lower (c.toNat : Int) W
          rwa [hL] at this
        have hl0 : 0 ≤ L := by rw [← hL]; exact bits_lo_u8 .or (c.toNat : Int) 32
        have hl1 : L < 256 := by rw [← hL]; have := bits_hi_u8 .or (c.toNat : Int) 32; omega
        have hlb : lowB c.toNat = L := hL
        by_cases hlet : 97 ≤ L ∧ L ≤ 102
        · have hx : hexV c.toNat = some (L.toNat - 87) := by unfold hexV; rw [if_neg hdig, hlb, if_pos hlet]
          obtain ⟨hd0, hd1⟩ := hlet
          clear hL hlb
          by_cases hov : 4095 < acc * 16 + (L.toNat - 87)
          · have hF : parse16 acc (c :: bs.drop (k + 1)) = .range := by simp [parse16, hx, hov]
            rw [hF] at hdec
            have iov : 4095 < a * 16 + (L - 87) := by omega
            clear hacc hF hov ha hx
            go_wp2_with (go_at_call 148; refine (hlow _).mono ?_; rintro e w' ⟨rfl, rfl⟩)
            all_goals go_ret2
            all_goals first | exact ⟨rfl, rfl⟩ | exact ⟨by rw [hdec]; rfl, rfl⟩
          · have hF : parse16 acc (c :: bs.drop (k + 1)) = parse16 (acc * 16 + (L.toNat - 87)) (bs.drop (k + 1)) := by simp [parse16, hx, hov]
            have HN : Hid (a * 16 + (L - 87) = ((acc * 16 + (L.toNat - 87) : Nat) : Int) ∧ acc * 16 + (L.toNat - 87) < 4096 ∧ parse16 0 bs = parse16 (acc * 16 + (L.toNat - 87)) (bs.drop (k + 1))) := Lib.hid ⟨by omega, by omega, hdec.trans hF⟩
            have iov : a * 16 + (L - 87) ≤ 4095 := by omega
            clear hacc hF hov hdec ha hx
            go_wp2_with (go_at_call 148; refine (hlow _).mono ?_; rintro e w' ⟨rfl, rfl⟩)
            all_goals exact ⟨⟨k + 1, acc * 16 + (L.toNat - 87), a * 16 + (L - 87), rfl, (by first | rfl | (congr 1; omega)), (by first | rfl | (congr 1; omega)), by omega, HN⟩, by simp [intOf]; omega⟩
        · have hx : hexV c.toNat = none := by unfold hexV; rw [if_neg hdig, hlb, if_neg hlet]
          have hF : parse16 acc (c :: bs.drop (k + 1)) = Lib.NumEnd.syntax := by simp [parse16, hx]
          rw [hF] at hdec
          clear hacc hF ha hL hlb hx
          go_wp2_with (go_at_call 148; refine (hlow _).mono ?_; rintro e w' ⟨rfl, rfl⟩)
          all_goals go_ret2
          all_goals first | exact ⟨rfl, rfl⟩ | exact ⟨by rw [hdec]; rfl, rfl⟩
    · have hkk : k = t.size := by omega
      subst hkk
      have hF : parse16 acc (bs.drop t.size) = .ok acc := by rw [List.drop_eq_nil_of_le (by omega)]; rfl
      rw [hF] at hdec
      subst ha
      clear hacc hF a0 a1
      go_wp2
      go_ret2
      exact ⟨rfl, rfl⟩
theorem parseHex_inner (t : ByteArray) (hmax : t.size ≤ 9223372036854775806) (w : World) :
    Calls Tryz.prog 131 #[.string t, .int .i64 16, .int .i64 12] w fun e w' => e = .returned (Lib.uintTupleM 179 4095 (parseHex t.data.toList)) ∧ Below w.heap.size w w' := by
  by_cases h0 : t.size = 0
  · have ht : t = ⟨#[]⟩ := by
      obtain ⟨⟨l⟩⟩ := t
      cases l with
      | nil => rfl
      | cons _ _ => simp [ByteArray.size] at h0
    subst ht
    exact (Tryz.internal_strconv_ParseUint_empty 16 12 w).mono fun e w' ⟨he, hw⟩ => ⟨he, by rw [hw]; exact Below.refl _ _⟩
  · have hne : t.data.toList ≠ [] := fun h => h0 (by rw [Lib.size_eq, h]; rfl)
    refine (parseHex_ne t h0 hmax w).mono fun e w' ⟨he, hw⟩ => ⟨?_, by rw [hw]; exact Lib.bytesWorld_below _ _ _⟩
    rw [he, parseHex, if_neg hne]
set_option maxHeartbeats 4000000 in
set_option maxRecDepth 100000 in
theorem parseUint16_ok (s : ByteArray) (hmax : s.size ≤ 9223372036854775806) (u : Nat) (h : parseHex s.data.toList = .ok u) (w : World) :
    Calls Tryz.prog 105 #[.string s, .int .i64 16, .int .i64 12] w fun e w' => e = .returned (.tuple #[.int .u64 u, .nilIface]) ∧ Below w.heap.size w w' := by
  have hI := parseHex_inner s hmax w
  rw [h] at hI
  have hI : Calls Tryz.prog 131 #[.string s, .int .i64 16, .int .i64 12] w fun e w' => e = .returned (.tuple #[.int .u64 u, .nilIface]) ∧ Below w.heap.size w w' := hI
  clear h
  go_enter Tryz.func105, Tryz.ntmps105
  go_wp2_with (go_at_call 131; refine hI.mono ?_; rintro e W1 ⟨rfl, hW⟩)
  go_wp2
  go_ret2
  exact ⟨rfl, hW⟩
set_option maxHeartbeats 4000000 in
set_option maxRecDepth 100000 in
theorem parseUint16_syntax (s : ByteArray) (hlim : s.size ≤ 281474976710656) (h : parseHex s.data.toList = Lib.NumEnd.syntax) (te : TypeId) (pe : Value) (w : World) (hv : w.cell? ⟨15, 0, none⟩ = some (.iface te pe)) :
    Calls Tryz.prog 105 #[.string s, .int .i64 16, .int .i64 12] w fun e w' => (∃ N, e = .returned (.tuple #[.int .u64 0, .iface 180 (.pointer (some ⟨N, 0, none⟩))])) ∧ Below w.heap.size w w' := by
  have hG : 15 < w.heap.size := Lib.lt_of_cell hv
  have hI := parseHex_inner s (by omega) w
  rw [h] at hI
  have hI : Calls Tryz.prog 131 #[.string s, .int .i64 16, .int .i64 12] w fun e w' => e = .returned (.tuple #[.int .u64 0, .iface 179 (.int .i64 2)]) ∧ Below w.heap.size w w' := hI
  clear h
  go_enter Tryz.func105, Tryz.ntmps105
  go_wp2_with (go_at_call 131; refine hI.mono ?_)
  rintro e W1 ⟨rfl, hb1⟩
  have hv1 : W1.cell? ⟨15, 0, none⟩ = some (.iface te pe) := (hb1.cell (show (⟨15, 0, none⟩ : Addr).block < w.heap.size from hG)).trans hv
  go_wp2_with (go_at_call 129; refine (Tryz.strconv_toError_syntax ⟨#[80, 97, 114, 115, 101, 85, 105, 110, 116]⟩ s 16 12 (.iface te pe) _ hlim ?_ (.inr ⟨te, pe, rfl⟩)).mono ?_)
  · exact hv1
  rintro e W2 ⟨N, rfl, h1, h2, h3⟩
  go_wp2
  go_ret2
  exact ⟨⟨N, rfl⟩, hb1.trans (h3.mono hb1.size)⟩
set_option maxHeartbeats 4000000 in
set_option maxRecDepth 100000 in
theorem parseUint16_range (s : ByteArray) (hlim : s.size ≤ 281474976710656) (h : parseHex s.data.toList = .range) (te : TypeId) (pe : Value) (w : World) (hv : w.cell? ⟨16, 0, none⟩ = some (.iface te pe)) :
    Calls Tryz.prog 105 #[.string s, .int .i64 16, .int .i64 12] w fun e w' => (∃ N, e = .returned (.tuple #[.int .u64 4095, .iface 180 (.pointer (some ⟨N, 0, none⟩))])) ∧ Below w.heap.size w w' := by
  have hG : 16 < w.heap.size := Lib.lt_of_cell hv
  have hI := parseHex_inner s (by omega) w
  rw [h] at hI
  have hI : Calls Tryz.prog 131 #[.string s, .int .i64 16, .int .i64 12] w fun e w' => e = .returned (.tuple #[.int .u64 4095, .iface 179 (.int .i64 1)]) ∧ Below w.heap.size w w' := hI
  clear h
  go_enter Tryz.func105, Tryz.ntmps105
  go_wp2_with (go_at_call 131; refine hI.mono ?_)
  rintro e W1 ⟨rfl, hb1⟩
  have hv1 : W1.cell? ⟨16, 0, none⟩ = some (.iface te pe) := (hb1.cell (show (⟨16, 0, none⟩ : Addr).block < w.heap.size from hG)).trans hv
  go_wp2_with (go_at_call 129; refine (Tryz.strconv_toError_range ⟨#[80, 97, 114, 115, 101, 85, 105, 110, 116]⟩ s 16 12 (.iface te pe) _ hlim ?_ (.inr ⟨te, pe, rfl⟩)).mono ?_)
  · exact hv1
  rintro e W2 ⟨N, rfl, h1, h2, h3⟩
  go_wp2
  go_ret2
  exact ⟨⟨N, rfl⟩, hb1.trans (h3.mono hb1.size)⟩
end Go.Proofs.YtgkicojmgokinaaGreatDoor
