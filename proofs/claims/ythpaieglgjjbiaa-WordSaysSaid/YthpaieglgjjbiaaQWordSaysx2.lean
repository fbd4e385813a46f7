-- Laid by a program of this session (wip/tpl/mine.sh), out of the program's form in Lean: Lean checks it.
import Derived.Test.YthpaieglgjjbiaaQWordSaysx0
namespace Go.Proofs.Ythpaieglgjjbiaa.QWordSays
open Go.RowKit Go.Proofs.YthpaieglgjjbiaaW.PrintWords Go.Proofs.YthpaieglgjjbiaaW.PrintLast Go.Proofs.YthpaieglgjjbiaaW.PrintMore
attribute [local go_sem] max2_int min2_int max_two min_two max_three min_three max_four min_four   -- for this text's walks alone
set_option linter.unusedVariables false
set_option linter.unusedSimpArgs false

/-! ### word_Rem: function 27 -/
def word_Rem.j0 : Nat → Int → Int → Bool → Bool → Option (Int)
  | 0, _, _, _, _ => none
  | k + 1, x0, x1, x2, x11 => if x11 = true then (some 0) else (if x2 = true then (if (wrap32 (x1)) = 0 then (none) else (some ((Int.tmod (wrap32 (x0)) (wrap32 (x1))) % 4294967296))) else (if x1 = 0 then (none) else (some (Int.tmod x0 x1))))
def word_Rem.f (k : Nat) (a0 : Int) (a1 : Int) (a2 : Bool) : Option (Int) := if a1 = 0 then (some a0) else (if a2 = true then (word_Rem.j0 k a0 a1 a2 (a1 == 4294967295)) else (word_Rem.j0 k a0 a1 a2 false))
theorem word_Rem.mono_l : ∀ k, (∀ y0 y1 y2 y3, LeO (word_Rem.j0 k y0 y1 y2 y3) (word_Rem.j0 (k + 1) y0 y1 y2 y3))
  | 0 => fun _ _ _ _ r h => by simp [word_Rem.j0] at h
  | k + 1 => by
    have ih0 := word_Rem.mono_l k
    · intro y0 y1 y2 y3
      unfold word_Rem.j0
      repeat' first
      | (with_reducible exact ih0 _ _ _ _)
      | (with_reducible exact LeO.refl _)
      | (with_reducible exact LeO.none _)
      | (with_reducible refine LeO.ite ?_ ?_)
      | (with_reducible refine LeO.bind ?_ (fun _ => ?_))
      | exact ih0 _ _ _ _
      | exact LeO.none _
      | refine LeO.ite ?_ ?_
      | refine LeO.bind ?_ (fun _ => ?_)
theorem word_Rem.mono : ∀ a0 a1 a2 k, LeO (word_Rem.f k a0 a1 a2) (word_Rem.f (k + 1) a0 a1 a2) := by
  intro a0 a1 a2 k
  have ih0 := word_Rem.mono_l k
  unfold word_Rem.f
  repeat' first
      | (with_reducible exact ih0 _ _ _ _)
      | (with_reducible exact LeO.refl _)
      | (with_reducible exact LeO.none _)
      | (with_reducible refine LeO.ite ?_ ?_)
      | (with_reducible refine LeO.bind ?_ (fun _ => ?_))
      | exact ih0 _ _ _ _
      | exact LeO.none _
      | refine LeO.ite ?_ ?_
      | refine LeO.bind ?_ (fun _ => ?_)
set_option maxHeartbeats 8000000 in
set_option maxRecDepth 100000 in
theorem word_Rem.calls (k : Nat) (a0 : Int) (a1 : Int) (a2 : Bool) (r : Int) (w : World) (h : word_Rem.f k a0 a1 a2 = some r) :
    Calls Try.prog 27 #[.int .u32 a0, .int .u32 a1, .bool a2] w fun e w' => e = .returned (.int .u32 r) ∧ Drawn0 w w' := by
  have H : (if a1 = 0 then (some a0) else (if a2 = true then (word_Rem.j0 k a0 a1 a2 (a1 == 4294967295)) else (word_Rem.j0 k a0 a1 a2 false))) = some r := h
  clear h
  by_cases c4 : a1 = 0
  · rw [if_pos c4] at H
    have c4b0 : (a1 == 0) = true := beq_iff_eq.mpr c4
    have c4b1 : (a1 != 0) = false := bne_eq_false_iff_eq.mpr c4
    clear c4
    obtain rfl := Option.some.inj H
    go_enter Try.func27, Try.ntmps27
    go_wp2
    go_ret
    exact ⟨by first | rfl | (simp; done) | (simp [*]; done), by repeat (first | exact Drawn0.refl _ | apply Drawn0.step)⟩
  · rw [if_neg c4] at H
    have c4b0 : (a1 == 0) = false := beq_eq_false_iff_ne.mpr c4
    have c4b1 : (a1 != 0) = true := bne_iff_ne.mpr c4
    have HC5 := Aside0.mk H
    clear H
    go_enter Try.func27, Try.ntmps27
    go_upto_region 3 with (fail)
    go_cut [11] (fun v11 wc => ∃ (kq : Nat) (x11_4 : Bool), v11 = .bool x11_4 ∧ Aside0 (word_Rem.j0 kq a0 a1 a2 x11_4 = some r) ∧ Aside0 (kq ≤ k) ∧ Drawn0 w wc)
    case first =>
      have H := HC5.out
      clear HC5
      by_cases c6 : a2 = true
      · subst c6
        have H1 : (word_Rem.j0 k a0 a1 true (a1 == 4294967295)) = some r := by rw [if_pos rfl] at H; exact H
        clear H
        have H := H1
        clear H1
        have H' := Aside0.mk H
        clear H
        go_wp2
        go_meet
        case rel => exact ⟨_, ((a1 == 4294967295)), (by first | rfl | (simp; done) | (simp [*]; done)), H', ⟨by first | omega | exact Nat.le_refl _⟩, by repeat (first | exact Drawn0.refl _ | apply Drawn0.step)⟩
      · replace c6 := Bool.eq_false_iff.mpr c6
        subst c6
        have H1 : (word_Rem.j0 k a0 a1 false false) = some r := by rw [if_neg (show ¬ (false = true) by decide)] at H; exact H
        clear H
        have H := H1
        clear H1
        have H' := Aside0.mk H
        clear H
        go_wp2
        go_meet
        case rel => exact ⟨_, (false), (by first | rfl | (simp; done) | (simp [*]; done)), H', ⟨by first | omega | exact Nat.le_refl _⟩, by repeat (first | exact Drawn0.refl _ | apply Drawn0.step)⟩
    case rest =>
      clear HC5
      try clear c2
      try clear p2
      try clear c4
      try clear c4b0
      try clear c4b1
      try clear c6
      obtain ⟨kq, x11_4, rfl, HA, HJ4, ⟨mc4, rfl⟩⟩ := hcut
      cases kq with
      | zero => exact absurd HA.out (by simp [word_Rem.j0])
      | succ kj4 =>
        have H := HA.out
        clear HA
        simp only [word_Rem.j0] at H
        by_cases c7 : x11_4 = true
        · subst c7
          have H1 : (some 0) = some r := by rw [if_pos rfl] at H; exact H
          clear H
          have H := H1
          clear H1
          obtain rfl := Option.some.inj H
          go_wp2
          go_ret
          exact ⟨by first | rfl | (simp; done) | (simp [*]; done), by repeat (first | exact Drawn0.refl _ | apply Drawn0.step)⟩
        · replace c7 := Bool.eq_false_iff.mpr c7
          subst c7
          have H1 : (if a2 = true then (if (wrap32 (a1)) = 0 then (none) else (some ((Int.tmod (wrap32 (a0)) (wrap32 (a1))) % 4294967296))) else (if a1 = 0 then (none) else (some (Int.tmod a0 a1)))) = some r := by rw [if_neg (show ¬ (false = true) by decide)] at H; exact H
          clear H
          have H := H1
          clear H1
          by_cases c8 : a2 = true
          · subst c8
            have H1 : (if (wrap32 (a1)) = 0 then (none) else (some ((Int.tmod (wrap32 (a0)) (wrap32 (a1))) % 4294967296))) = some r := by rw [if_pos rfl] at H; exact H
            clear H
            have H := H1
            clear H1
            by_cases c9 : (wrap32 (a1)) = 0
            · rw [if_pos c9] at H
              exact absurd H (by simp)
            · rw [if_neg c9] at H
              have c9b0 : ((wrap32 (a1)) == 0) = false := beq_eq_false_iff_ne.mpr c9
              have c9b1 : ((wrap32 (a1)) != 0) = true := bne_iff_ne.mpr c9
              obtain rfl := Option.some.inj H
              go_wp2
              go_ret
              exact ⟨by first | rfl | (simp; done) | (simp [*]; done), by repeat (first | exact Drawn0.refl _ | apply Drawn0.step)⟩
          · replace c8 := Bool.eq_false_iff.mpr c8
            subst c8
            have H1 : (if a1 = 0 then (none) else (some (Int.tmod a0 a1))) = some r := by rw [if_neg (show ¬ (false = true) by decide)] at H; exact H
            clear H
            have H := H1
            clear H1
            by_cases c10 : a1 = 0
            · rw [if_pos c10] at H
              exact absurd H (by simp)
            · rw [if_neg c10] at H
              have c10b0 : (a1 == 0) = false := beq_eq_false_iff_ne.mpr c10
              have c10b1 : (a1 != 0) = true := bne_iff_ne.mpr c10
              obtain rfl := Option.some.inj H
              go_wp2
              go_ret
              exact ⟨by first | rfl | (simp; done) | (simp [*]; done), by repeat (first | exact Drawn0.refl _ | apply Drawn0.step)⟩

/-! ### word_Less: function 28 -/
def word_Less.f (a0 : Int) (a1 : Int) (a2 : Bool) : Option (Bool) := if a2 = true then (some (decide ((wrap32 (a0)) < (wrap32 (a1))))) else (some (decide (a0 < a1)))
set_option maxHeartbeats 8000000 in
set_option maxRecDepth 100000 in
theorem word_Less.calls (a0 : Int) (a1 : Int) (a2 : Bool) (r : Bool) (w : World) (h : word_Less.f a0 a1 a2 = some r) :
    Calls Try.prog 28 #[.int .u32 a0, .int .u32 a1, .bool a2] w fun e w' => e = .returned (.bool r) ∧ Drawn0 w w' := by
  have H : (if a2 = true then (some (decide ((wrap32 (a0)) < (wrap32 (a1))))) else (some (decide (a0 < a1)))) = some r := h
  clear h
  by_cases c4 : a2 = true
  · subst c4
    have H1 : (some (decide ((wrap32 (a0)) < (wrap32 (a1))))) = some r := by rw [if_pos rfl] at H; exact H
    clear H
    have H := H1
    clear H1
    obtain rfl := Option.some.inj H
    go_enter Try.func28, Try.ntmps28
    go_wp2
    go_ret
    exact ⟨by first | rfl | (simp; done) | (simp [*]; done), by repeat (first | exact Drawn0.refl _ | apply Drawn0.step)⟩
  · replace c4 := Bool.eq_false_iff.mpr c4
    subst c4
    have H1 : (some (decide (a0 < a1))) = some r := by rw [if_neg (show ¬ (false = true) by decide)] at H; exact H
    clear H
    have H := H1
    clear H1
    obtain rfl := Option.some.inj H
    go_enter Try.func28, Try.ntmps28
    go_wp2
    go_ret
    exact ⟨by first | rfl | (simp; done) | (simp [*]; done), by repeat (first | exact Drawn0.refl _ | apply Drawn0.step)⟩

/-! ### corralref1_Sign: function 37 -/
def corralref1_Sign.f (a0 : Int) (a1 : Int) : Option (Int) := if a1 < 1 then (some 0) else (if a1 > 31 then (some a0) else (if 0 ≤ (IntKind.u64.wrap (a1)) then (if 0 ≤ (IntKind.u64.wrap (wrap64 (a1 - 1))) then (if (shr .u32 (Go.bits .and .u32 a0 (((shl .u32 1 (IntKind.u64.wrap (a1))) - 1) % 4294967296)) (IntKind.u64.wrap (wrap64 (a1 - 1)))) = 1 then (some (Go.bits .or .u32 (Go.bits .and .u32 a0 (((shl .u32 1 (IntKind.u64.wrap (a1))) - 1) % 4294967296)) (Go.bits .xor .u32 4294967295 (((shl .u32 1 (IntKind.u64.wrap (a1))) - 1) % 4294967296)))) else (some (Go.bits .and .u32 a0 (((shl .u32 1 (IntKind.u64.wrap (a1))) - 1) % 4294967296)))) else (none)) else (none)))
set_option maxHeartbeats 8000000 in
set_option maxRecDepth 100000 in
theorem corralref1_Sign.calls (a0 : Int) (a1 : Int) (r : Int) (w : World) (h : corralref1_Sign.f a0 a1 = some r) :
    Calls Try.prog 37 #[.int .u32 a0, .int .i64 a1] w fun e w' => e = .returned (.int .u32 r) ∧ Drawn0 w w' := by
  have H : (if a1 < 1 then (some 0) else (if a1 > 31 then (some a0) else (if 0 ≤ (IntKind.u64.wrap (a1)) then (if 0 ≤ (IntKind.u64.wrap (wrap64 (a1 - 1))) then (if (shr .u32 (Go.bits .and .u32 a0 (((shl .u32 1 (IntKind.u64.wrap (a1))) - 1) % 4294967296)) (IntKind.u64.wrap (wrap64 (a1 - 1)))) = 1 then (some (Go.bits .or .u32 (Go.bits .and .u32 a0 (((shl .u32 1 (IntKind.u64.wrap (a1))) - 1) % 4294967296)) (Go.bits .xor .u32 4294967295 (((shl .u32 1 (IntKind.u64.wrap (a1))) - 1) % 4294967296)))) else (some (Go.bits .and .u32 a0 (((shl .u32 1 (IntKind.u64.wrap (a1))) - 1) % 4294967296)))) else (none)) else (none)))) = some r := h
  clear h
  by_cases c3 : a1 < 1
  · rw [if_pos c3] at H
    have c3b0 : decide (a1 < 1) = true := decide_eq_true c3
    clear c3
    obtain rfl := Option.some.inj H
    go_enter Try.func37, Try.ntmps37
    go_wp2
    go_ret
    exact ⟨by first | rfl | (simp; done) | (simp [*]; done), by repeat (first | exact Drawn0.refl _ | apply Drawn0.step)⟩
  · rw [if_neg c3] at H
    have c3b0 : decide (a1 < 1) = false := decide_eq_false c3
    clear c3
    by_cases c4 : a1 > 31
    · rw [if_pos c4] at H
      have c4b0 : decide (31 < a1) = true := decide_eq_true c4
      clear c4
      obtain rfl := Option.some.inj H
      go_enter Try.func37, Try.ntmps37
      go_wp2
      go_ret
      exact ⟨by first | rfl | (simp; done) | (simp [*]; done), by repeat (first | exact Drawn0.refl _ | apply Drawn0.step)⟩
    · rw [if_neg c4] at H
      have c4b0 : decide (31 < a1) = false := decide_eq_false c4
      clear c4
      obtain ⟨ji5, hji5⟩ : ∃ j_ : Int, (IntKind.u64.wrap (a1)) = j_ := ⟨_, rfl⟩
      replace H : (if 0 ≤ (ji5) then (if 0 ≤ (IntKind.u64.wrap (wrap64 (a1 - 1))) then (if (shr .u32 (Go.bits .and .u32 a0 (((shl .u32 1 (ji5)) - 1) % 4294967296)) (IntKind.u64.wrap (wrap64 (a1 - 1)))) = 1 then (some (Go.bits .or .u32 (Go.bits .and .u32 a0 (((shl .u32 1 (ji5)) - 1) % 4294967296)) (Go.bits .xor .u32 4294967295 (((shl .u32 1 (ji5)) - 1) % 4294967296)))) else (some (Go.bits .and .u32 a0 (((shl .u32 1 (ji5)) - 1) % 4294967296)))) else (none)) else (none)) = some r := by first | (rw [hji5] at H; exact H) | (simp only [hji5] at H ⊢; exact H)
      by_cases c6 : 0 ≤ (ji5)
      · rw [if_pos c6] at H
        have c6b0 := eq_true c6
        have c6b1 : decide (0 ≤ (ji5)) = true := decide_eq_true c6
        clear c6
        obtain ⟨ji7, hji7⟩ : ∃ j_ : Int, (shl .u32 1 (ji5)) = j_ := ⟨_, rfl⟩
        replace H : (if 0 ≤ (IntKind.u64.wrap (wrap64 (a1 - 1))) then (if (shr .u32 (Go.bits .and .u32 a0 (((ji7) - 1) % 4294967296)) (IntKind.u64.wrap (wrap64 (a1 - 1)))) = 1 then (some (Go.bits .or .u32 (Go.bits .and .u32 a0 (((ji7) - 1) % 4294967296)) (Go.bits .xor .u32 4294967295 (((ji7) - 1) % 4294967296)))) else (some (Go.bits .and .u32 a0 (((ji7) - 1) % 4294967296)))) else (none)) = some r := by first | (rw [hji7] at H; exact H) | (simp only [hji7] at H ⊢; exact H)
        have hji7_ : (IntKind.u32.wrap (1 * 2 ^ min (ji5).toNat 32)) = ji7 := hji7
        have hji7z : (ji5) ≤ 32 → (IntKind.u32.wrap (1 * 2 ^ (ji5).toNat)) = ji7 := shl_small hji7
        have hji7u : (IntKind.u32.wrap (2 ^ min (ji5).toNat 32)) = ji7 := by have h_ := hji7_; rw [Int.one_mul] at h_; exact h_
        have hji7v : (ji5) ≤ 32 → (IntKind.u32.wrap (2 ^ (ji5).toNat)) = ji7 := fun hle_ => by have h_ := hji7z hle_; rw [Int.one_mul] at h_; exact h_
        obtain ⟨ji8, hji8⟩ : ∃ j_ : Int, (IntKind.u64.wrap (wrap64 (a1 - 1))) = j_ := ⟨_, rfl⟩
        replace H : (if 0 ≤ (ji8) then (if (shr .u32 (Go.bits .and .u32 a0 (((ji7) - 1) % 4294967296)) (ji8)) = 1 then (some (Go.bits .or .u32 (Go.bits .and .u32 a0 (((ji7) - 1) % 4294967296)) (Go.bits .xor .u32 4294967295 (((ji7) - 1) % 4294967296)))) else (some (Go.bits .and .u32 a0 (((ji7) - 1) % 4294967296)))) else (none)) = some r := by first | (rw [hji8] at H; exact H) | (simp only [hji8] at H ⊢; exact H)
        by_cases c9 : 0 ≤ (ji8)
        · rw [if_pos c9] at H
          have c9b0 := eq_true c9
          have c9b1 : decide (0 ≤ (ji8)) = true := decide_eq_true c9
          clear c9
          obtain ⟨ji10, hji10⟩ : ∃ j_ : Int, (shr .u32 (Go.bits .and .u32 a0 (((ji7) - 1) % 4294967296)) (ji8)) = j_ := ⟨_, rfl⟩
          replace H : (if (ji10) = 1 then (some (Go.bits .or .u32 (Go.bits .and .u32 a0 (((ji7) - 1) % 4294967296)) (Go.bits .xor .u32 4294967295 (((ji7) - 1) % 4294967296)))) else (some (Go.bits .and .u32 a0 (((ji7) - 1) % 4294967296)))) = some r := by first | (rw [hji10] at H; exact H) | (simp only [hji10] at H ⊢; exact H)
          have hji10_ : ((Go.bits .and .u32 a0 (((ji7) - 1) % 4294967296)) / 2 ^ min (ji8).toNat 32) = ji10 := hji10
          have hji10z : (ji8) ≤ 32 → ((Go.bits .and .u32 a0 (((ji7) - 1) % 4294967296)) / 2 ^ (ji8).toNat) = ji10 := shr_small hji10
          by_cases c11 : (ji10) = 1
          · rw [if_pos c11] at H
            have c11b0 : ((ji10) == 1) = true := beq_iff_eq.mpr c11
            have c11b1 : ((ji10) != 1) = false := bne_eq_false_iff_eq.mpr c11
            clear c11
            have c12b0 := eq_true (of_decide_eq_true (by first | (with_reducible assumption) | assumption) : 0 ≤ (ji5))
            obtain rfl := Option.some.inj H
            go_enter Try.func37, Try.ntmps37
            go_wp2
            go_ret
            exact ⟨by first | rfl | (simp; done) | (simp only [← hji5, ← hji7, ← hji8, ← hji10] <;> (first | rfl | simp)) | (simp [*]; done), by repeat (first | exact Drawn0.refl _ | apply Drawn0.step)⟩
          · rw [if_neg c11] at H
            have c11b0 : ((ji10) == 1) = false := beq_eq_false_iff_ne.mpr c11
            have c11b1 : ((ji10) != 1) = true := bne_iff_ne.mpr c11
            obtain rfl := Option.some.inj H
            go_enter Try.func37, Try.ntmps37
            go_wp2
            go_ret
            exact ⟨by first | rfl | (simp; done) | (simp only [← hji5, ← hji7, ← hji8, ← hji10] <;> (first | rfl | simp)) | (simp [*]; done), by repeat (first | exact Drawn0.refl _ | apply Drawn0.step)⟩
        · rw [if_neg c9] at H
          exact absurd H (by simp)
      · rw [if_neg c6] at H
        exact absurd H (by simp)

/-! ### corralref1_Bits: function 38 -/
def corralref1_Bits.j0 : Nat → Int → Int → Int → Bool → Option (Int)
  | 0, _, _, _, _ => none
  | k + 1, x0, x1, x2, x16 => if x16 = true then (some 0) else (if 0 ≤ (IntKind.u64.wrap (x1)) then (if x2 ≥ 32 then (some (shr .u32 x0 (IntKind.u64.wrap (x1)))) else (if 0 ≤ (IntKind.u64.wrap (x2)) then (some (Go.bits .and .u32 (shr .u32 x0 (IntKind.u64.wrap (x1))) (((shl .u32 1 (IntKind.u64.wrap (x2))) - 1) % 4294967296))) else (none))) else (none))
def corralref1_Bits.f (k : Nat) (a0 : Int) (a1 : Int) (a2 : Int) : Option (Int) := if a1 < 0 then (corralref1_Bits.j0 k a0 a1 a2 true) else (if a1 > 31 then (corralref1_Bits.j0 k a0 a1 a2 true) else (corralref1_Bits.j0 k a0 a1 a2 (decide (a2 < 1))))
theorem corralref1_Bits.mono_l : ∀ k, (∀ y0 y1 y2 y3, LeO (corralref1_Bits.j0 k y0 y1 y2 y3) (corralref1_Bits.j0 (k + 1) y0 y1 y2 y3))
  | 0 => fun _ _ _ _ r h => by simp [corralref1_Bits.j0] at h
  | k + 1 => by
    have ih0 := corralref1_Bits.mono_l k
    · intro y0 y1 y2 y3
      unfold corralref1_Bits.j0
      repeat' first
      | (with_reducible exact ih0 _ _ _ _)
      | (with_reducible exact LeO.refl _)
      | (with_reducible exact LeO.none _)
      | (with_reducible refine LeO.ite ?_ ?_)
      | (with_reducible refine LeO.bind ?_ (fun _ => ?_))
      | exact ih0 _ _ _ _
      | exact LeO.none _
      | refine LeO.ite ?_ ?_
      | refine LeO.bind ?_ (fun _ => ?_)
theorem corralref1_Bits.mono : ∀ a0 a1 a2 k, LeO (corralref1_Bits.f k a0 a1 a2) (corralref1_Bits.f (k + 1) a0 a1 a2) := by
  intro a0 a1 a2 k
  have ih0 := corralref1_Bits.mono_l k
  unfold corralref1_Bits.f
  repeat' first
      | (with_reducible exact ih0 _ _ _ _)
      | (with_reducible exact LeO.refl _)
      | (with_reducible exact LeO.none _)
      | (with_reducible refine LeO.ite ?_ ?_)
      | (with_reducible refine LeO.bind ?_ (fun _ => ?_))
      | exact ih0 _ _ _ _
      | exact LeO.none _
      | refine LeO.ite ?_ ?_
      | refine LeO.bind ?_ (fun _ => ?_)
set_option maxHeartbeats 8000000 in
set_option maxRecDepth 100000 in
theorem corralref1_Bits.calls (k : Nat) (a0 : Int) (a1 : Int) (a2 : Int) (r : Int) (w : World) (h : corralref1_Bits.f k a0 a1 a2 = some r) :
    Calls Try.prog 38 #[.int .u32 a0, .int .i64 a1, .int .i64 a2] w fun e w' => e = .returned (.int .u32 r) ∧ Drawn0 w w' := by
  have H : (if a1 < 0 then (corralref1_Bits.j0 k a0 a1 a2 true) else (if a1 > 31 then (corralref1_Bits.j0 k a0 a1 a2 true) else (corralref1_Bits.j0 k a0 a1 a2 (decide (a2 < 1))))) = some r := h
  clear h
  have HC4 := Aside0.mk H
  clear H
  go_enter Try.func38, Try.ntmps38
  go_upto_region 1 with (fail)
  go_cut [16] (fun v16 wc => ∃ (kq : Nat) (x16_3 : Bool), v16 = .bool x16_3 ∧ Aside0 (corralref1_Bits.j0 kq a0 a1 a2 x16_3 = some r) ∧ Aside0 (kq ≤ k) ∧ Drawn0 w wc)
  case first =>
    have H := HC4.out
    clear HC4
    by_cases c5 : a1 < 0
    · rw [if_pos c5] at H
      have c5b0 : decide (a1 < 0) = true := decide_eq_true c5
      clear c5
      (first | rw [c5b0] | (simp only [i64_w, i32_w]; rw [c5b0]) | skip)
      have H' := Aside0.mk H
      clear H
      go_wp2
      go_meet
      case rel => exact ⟨_, (true), (by first | rfl | (simp; done) | (simp [*]; done)), H', ⟨by first | omega | exact Nat.le_refl _⟩, by repeat (first | exact Drawn0.refl _ | apply Drawn0.step)⟩
    · rw [if_neg c5] at H
      have c5b0 : decide (a1 < 0) = false := decide_eq_false c5
      clear c5
      (first | rw [c5b0] | (simp only [i64_w, i32_w]; rw [c5b0]) | skip)
      by_cases c6 : a1 > 31
      · rw [if_pos c6] at H
        have c6b0 : decide (31 < a1) = true := decide_eq_true c6
        clear c6
        have H' := Aside0.mk H
        clear H
        go_wp2
        go_meet
        case rel => exact ⟨_, (true), (by first | rfl | (simp; done) | (simp [*]; done)), H', ⟨by first | omega | exact Nat.le_refl _⟩, by repeat (first | exact Drawn0.refl _ | apply Drawn0.step)⟩
      · rw [if_neg c6] at H
        have c6b0 : decide (31 < a1) = false := decide_eq_false c6
        clear c6
        have H' := Aside0.mk H
        clear H
        go_wp2
        go_meet
        case rel => exact ⟨_, (decide (a2 < 1)), (by first | rfl | (simp; done) | (simp [*]; done)), H', ⟨by first | omega | exact Nat.le_refl _⟩, by repeat (first | exact Drawn0.refl _ | apply Drawn0.step)⟩
  case rest =>
    clear HC4
    try clear p2
    try clear c3
    try clear c5
    try clear c5b0
    try clear c6
    try clear c6b0
    obtain ⟨kq, x16_3, rfl, HA, HJ3, ⟨mc3, rfl⟩⟩ := hcut
    cases kq with
    | zero => exact absurd HA.out (by simp [corralref1_Bits.j0])
    | succ kj3 =>
      have H := HA.out
      clear HA
      simp only [corralref1_Bits.j0] at H
      by_cases c7 : x16_3 = true
      · subst c7
        have H1 : (some 0) = some r := by rw [if_pos rfl] at H; exact H
        clear H
        have H := H1
        clear H1
        obtain rfl := Option.some.inj H
        go_wp2
        go_ret
        exact ⟨by first | rfl | (simp; done) | (simp [*]; done), by repeat (first | exact Drawn0.refl _ | apply Drawn0.step)⟩
      · replace c7 := Bool.eq_false_iff.mpr c7
        subst c7
        have H1 : (if 0 ≤ (IntKind.u64.wrap (a1)) then (if a2 ≥ 32 then (some (shr .u32 a0 (IntKind.u64.wrap (a1)))) else (if 0 ≤ (IntKind.u64.wrap (a2)) then (some (Go.bits .and .u32 (shr .u32 a0 (IntKind.u64.wrap (a1))) (((shl .u32 1 (IntKind.u64.wrap (a2))) - 1) % 4294967296))) else (none))) else (none)) = some r := by rw [if_neg (show ¬ (false = true) by decide)] at H; exact H
        clear H
        have H := H1
        clear H1
        obtain ⟨ji8, hji8⟩ : ∃ j_ : Int, (IntKind.u64.wrap (a1)) = j_ := ⟨_, rfl⟩
        replace H : (if 0 ≤ (ji8) then (if a2 ≥ 32 then (some (shr .u32 a0 (ji8))) else (if 0 ≤ (IntKind.u64.wrap (a2)) then (some (Go.bits .and .u32 (shr .u32 a0 (ji8)) (((shl .u32 1 (IntKind.u64.wrap (a2))) - 1) % 4294967296))) else (none))) else (none)) = some r := by first | (rw [hji8] at H; exact H) | (simp only [hji8] at H ⊢; exact H)
        by_cases c9 : 0 ≤ (ji8)
        · rw [if_pos c9] at H
          have c9b0 := eq_true c9
          have c9b1 : decide (0 ≤ (ji8)) = true := decide_eq_true c9
          clear c9
          obtain ⟨ji10, hji10⟩ : ∃ j_ : Int, (shr .u32 a0 (ji8)) = j_ := ⟨_, rfl⟩
          replace H : (if a2 ≥ 32 then (some ji10) else (if 0 ≤ (IntKind.u64.wrap (a2)) then (some (Go.bits .and .u32 (ji10) (((shl .u32 1 (IntKind.u64.wrap (a2))) - 1) % 4294967296))) else (none))) = some r := by first | (rw [hji10] at H; exact H) | (simp only [hji10] at H ⊢; exact H)
          have hji10_ : (a0 / 2 ^ min (ji8).toNat 32) = ji10 := hji10
          have hji10z : (ji8) ≤ 32 → (a0 / 2 ^ (ji8).toNat) = ji10 := shr_small hji10
          by_cases c11 : a2 ≥ 32
          · rw [if_pos c11] at H
            have c11b0 : decide (32 ≤ a2) = true := decide_eq_true c11
            clear c11
            obtain rfl := Option.some.inj H
            go_wp2
            go_ret
            exact ⟨by first | rfl | (simp; done) | (simp only [← hji8, ← hji10] <;> (first | rfl | simp)) | (simp [*]; done), by repeat (first | exact Drawn0.refl _ | apply Drawn0.step)⟩
          · rw [if_neg c11] at H
            have c11b0 : decide (32 ≤ a2) = false := decide_eq_false c11
            clear c11
            obtain ⟨ji12, hji12⟩ : ∃ j_ : Int, (IntKind.u64.wrap (a2)) = j_ := ⟨_, rfl⟩
            replace H : (if 0 ≤ (ji12) then (some (Go.bits .and .u32 (ji10) (((shl .u32 1 (ji12)) - 1) % 4294967296))) else (none)) = some r := by first | (rw [hji12] at H; exact H) | (simp only [hji12] at H ⊢; exact H)
            by_cases c13 : 0 ≤ (ji12)
            · rw [if_pos c13] at H
              have c13b0 := eq_true c13
              have c13b1 : decide (0 ≤ (ji12)) = true := decide_eq_true c13
              clear c13
              obtain ⟨ji14, hji14⟩ : ∃ j_ : Int, (shl .u32 1 (ji12)) = j_ := ⟨_, rfl⟩
              replace H : (some (Go.bits .and .u32 (ji10) (((ji14) - 1) % 4294967296))) = some r := by first | (rw [hji14] at H; exact H) | (simp only [hji14] at H ⊢; exact H)
              have hji14_ : (IntKind.u32.wrap (1 * 2 ^ min (ji12).toNat 32)) = ji14 := hji14
              have hji14z : (ji12) ≤ 32 → (IntKind.u32.wrap (1 * 2 ^ (ji12).toNat)) = ji14 := shl_small hji14
              have hji14u : (IntKind.u32.wrap (2 ^ min (ji12).toNat 32)) = ji14 := by have h_ := hji14_; rw [Int.one_mul] at h_; exact h_
              have hji14v : (ji12) ≤ 32 → (IntKind.u32.wrap (2 ^ (ji12).toNat)) = ji14 := fun hle_ => by have h_ := hji14z hle_; rw [Int.one_mul] at h_; exact h_
              obtain rfl := Option.some.inj H
              go_wp2
              go_ret
              exact ⟨by first | rfl | (simp; done) | (simp only [← hji8, ← hji10, ← hji12, ← hji14] <;> (first | rfl | simp)) | (simp [*]; done), by repeat (first | exact Drawn0.refl _ | apply Drawn0.step)⟩
            · rw [if_neg c13] at H
              exact absurd H (by simp)
        · rw [if_neg c9] at H
          exact absurd H (by simp)

/-! ### corralref1_High: function 39 -/
mutual
def corralref1_High.j0 : Nat → Int → Int → Bool → Bool → Int → Int → Bool → Option (Int)
  | 0, _, _, _, _, _, _, _ => none
  | k + 1, x0, x1, x2, x3, x9, x10, x19 => if x19 = true then (corralref1_High.j1 k x0 x1 x2 x3 (wrap64 (x9 - 4294967296)) x10) else (corralref1_High.j1 k x0 x1 x2 x3 x9 x10)
def corralref1_High.j1 : Nat → Int → Int → Bool → Bool → Int → Int → Option (Int)
  | 0, _, _, _, _, _, _ => none
  | k + 1, x0, x1, x2, x3, x9, x10 => if x3 = true then (corralref1_High.j2 k x0 x1 x2 x3 x9 x10 (decide (x1 ≥ 2147483648))) else (corralref1_High.j2 k x0 x1 x2 x3 x9 x10 false)
def corralref1_High.j2 : Nat → Int → Int → Bool → Bool → Int → Int → Bool → Option (Int)
  | 0, _, _, _, _, _, _, _ => none
  | k + 1, x0, x1, x2, x3, x9, x10, x26 => if x26 = true then (if x2 = true then (some (((IntKind.u64.wrap (wrap64 (x9 * (wrap64 (x10 - 4294967296))))) / 4294967296) % 4294967296)) else (if x3 = true then (some (((IntKind.u64.wrap (wrap64 (x9 * (wrap64 (x10 - 4294967296))))) / 4294967296) % 4294967296)) else (some (((IntKind.u64.wrap ((IntKind.u64.wrap (x0)) * (IntKind.u64.wrap (x1)))) / 4294967296) % 4294967296)))) else (if x2 = true then (some (((IntKind.u64.wrap (wrap64 (x9 * x10))) / 4294967296) % 4294967296)) else (if x3 = true then (some (((IntKind.u64.wrap (wrap64 (x9 * x10))) / 4294967296) % 4294967296)) else (some (((IntKind.u64.wrap ((IntKind.u64.wrap (x0)) * (IntKind.u64.wrap (x1)))) / 4294967296) % 4294967296))))
end
def corralref1_High.f (k : Nat) (a0 : Int) (a1 : Int) (a2 : Bool) (a3 : Bool) : Option (Int) := if a2 = true then (corralref1_High.j0 k a0 a1 a2 a3 (wrap64 (a0)) (wrap64 (a1)) (decide (a0 ≥ 2147483648))) else (corralref1_High.j0 k a0 a1 a2 a3 (wrap64 (a0)) (wrap64 (a1)) false)
theorem corralref1_High.mono_l : ∀ k, (∀ y0 y1 y2 y3 y4 y5 y6, LeO (corralref1_High.j0 k y0 y1 y2 y3 y4 y5 y6) (corralref1_High.j0 (k + 1) y0 y1 y2 y3 y4 y5 y6)) ∧ (∀ y0 y1 y2 y3 y4 y5, LeO (corralref1_High.j1 k y0 y1 y2 y3 y4 y5) (corralref1_High.j1 (k + 1) y0 y1 y2 y3 y4 y5)) ∧ (∀ y0 y1 y2 y3 y4 y5 y6, LeO (corralref1_High.j2 k y0 y1 y2 y3 y4 y5 y6) (corralref1_High.j2 (k + 1) y0 y1 y2 y3 y4 y5 y6))
  | 0 => ⟨fun _ _ _ _ _ _ _ r h => by simp [corralref1_High.j0] at h, fun _ _ _ _ _ _ r h => by simp [corralref1_High.j1] at h, fun _ _ _ _ _ _ _ r h => by simp [corralref1_High.j2] at h⟩
  | k + 1 => by
    obtain ⟨ih0, ih1, ih2⟩ := corralref1_High.mono_l k
    refine ⟨?_, ?_, ?_⟩
    · intro y0 y1 y2 y3 y4 y5 y6
      unfold corralref1_High.j0
      repeat' first
      | (with_reducible exact ih0 _ _ _ _ _ _ _)
      | (with_reducible exact ih1 _ _ _ _ _ _)
      | (with_reducible exact ih2 _ _ _ _ _ _ _)
      | (with_reducible exact LeO.refl _)
      | (with_reducible exact LeO.none _)
      | (with_reducible refine LeO.ite ?_ ?_)
      | (with_reducible refine LeO.bind ?_ (fun _ => ?_))
      | exact ih0 _ _ _ _ _ _ _
      | exact ih1 _ _ _ _ _ _
      | exact ih2 _ _ _ _ _ _ _
      | exact LeO.none _
      | refine LeO.ite ?_ ?_
      | refine LeO.bind ?_ (fun _ => ?_)
    · intro y0 y1 y2 y3 y4 y5
      unfold corralref1_High.j1
      repeat' first
      | (with_reducible exact ih0 _ _ _ _ _ _ _)
      | (with_reducible exact ih1 _ _ _ _ _ _)
      | (with_reducible exact ih2 _ _ _ _ _ _ _)
      | (with_reducible exact LeO.refl _)
      | (with_reducible exact LeO.none _)
      | (with_reducible refine LeO.ite ?_ ?_)
      | (with_reducible refine LeO.bind ?_ (fun _ => ?_))
      | exact ih0 _ _ _ _ _ _ _
      | exact ih1 _ _ _ _ _ _
      | exact ih2 _ _ _ _ _ _ _
      | exact LeO.none _
      | refine LeO.ite ?_ ?_
      | refine LeO.bind ?_ (fun _ => ?_)
    · intro y0 y1 y2 y3 y4 y5 y6
      unfold corralref1_High.j2
      repeat' first
      | (with_reducible exact ih0 _ _ _ _ _ _ _)
      | (with_reducible exact ih1 _ _ _ _ _ _)
      | (with_reducible exact ih2 _ _ _ _ _ _ _)
      | (with_reducible exact LeO.refl _)
      | (with_reducible exact LeO.none _)
      | (with_reducible refine LeO.ite ?_ ?_)
      | (with_reducible refine LeO.bind ?_ (fun _ => ?_))
      | exact ih0 _ _ _ _ _ _ _
      | exact ih1 _ _ _ _ _ _
      | exact ih2 _ _ _ _ _ _ _
      | exact LeO.none _
      | refine LeO.ite ?_ ?_
      | refine LeO.bind ?_ (fun _ => ?_)
theorem corralref1_High.mono : ∀ a0 a1 a2 a3 k, LeO (corralref1_High.f k a0 a1 a2 a3) (corralref1_High.f (k + 1) a0 a1 a2 a3) := by
  intro a0 a1 a2 a3 k
  obtain ⟨ih0, ih1, ih2⟩ := corralref1_High.mono_l k
  unfold corralref1_High.f
  repeat' first
      | (with_reducible exact ih0 _ _ _ _ _ _ _)
      | (with_reducible exact ih1 _ _ _ _ _ _)
      | (with_reducible exact ih2 _ _ _ _ _ _ _)
      | (with_reducible exact LeO.refl _)
      | (with_reducible exact LeO.none _)
      | (with_reducible refine LeO.ite ?_ ?_)
      | (with_reducible refine LeO.bind ?_ (fun _ => ?_))
      | exact ih0 _ _ _ _ _ _ _
      | exact ih1 _ _ _ _ _ _
      | exact ih2 _ _ _ _ _ _ _
      | exact LeO.none _
      | refine LeO.ite ?_ ?_
      | refine LeO.bind ?_ (fun _ => ?_)
set_option maxHeartbeats 8000000 in
set_option maxRecDepth 100000 in
theorem corralref1_High.calls (k : Nat) (a0 : Int) (a1 : Int) (a2 : Bool) (a3 : Bool) (r : Int) (w : World) (h : corralref1_High.f k a0 a1 a2 a3 = some r) :
    Calls Try.prog 39 #[.int .u32 a0, .int .u32 a1, .bool a2, .bool a3] w fun e w' => e = .returned (.int .u32 r) ∧ Drawn0 w w' := by
  have H : (if a2 = true then (corralref1_High.j0 k a0 a1 a2 a3 (wrap64 (a0)) (wrap64 (a1)) (decide (a0 ≥ 2147483648))) else (corralref1_High.j0 k a0 a1 a2 a3 (wrap64 (a0)) (wrap64 (a1)) false)) = some r := h
  clear h
  have HC5 := Aside0.mk H
  clear H
  go_enter Try.func39, Try.ntmps39
  go_upto_region 3 with (fail)
  go_cut [19] (fun v19 wc => ∃ (kq : Nat) (x19_4 : Bool), v19 = .bool x19_4 ∧ Aside0 (corralref1_High.j0 kq a0 a1 a2 a3 (wrap64 (a0)) (wrap64 (a1)) x19_4 = some r) ∧ Aside0 (kq ≤ k) ∧ Drawn0 w wc)
  case first =>
    have H := HC5.out
    clear HC5
    by_cases c6 : a2 = true
    · subst c6
      have H1 : (corralref1_High.j0 k a0 a1 true a3 (wrap64 (a0)) (wrap64 (a1)) (decide (a0 ≥ 2147483648))) = some r := by rw [if_pos rfl] at H; exact H
      clear H
      have H := H1
      clear H1
      have H' := Aside0.mk H
      clear H
      go_wp2
      go_meet
      case rel => exact ⟨_, (decide (a0 ≥ 2147483648)), (by first | rfl | (simp; done) | (simp [*]; done)), H', ⟨by first | omega | exact Nat.le_refl _⟩, by repeat (first | exact Drawn0.refl _ | apply Drawn0.step)⟩
    · replace c6 := Bool.eq_false_iff.mpr c6
      subst c6
      have H1 : (corralref1_High.j0 k a0 a1 false a3 (wrap64 (a0)) (wrap64 (a1)) false) = some r := by rw [if_neg (show ¬ (false = true) by decide)] at H; exact H
      clear H
      have H := H1
      clear H1
      have H' := Aside0.mk H
      clear H
      go_wp2
      go_meet
      case rel => exact ⟨_, (false), (by first | rfl | (simp; done) | (simp [*]; done)), H', ⟨by first | omega | exact Nat.le_refl _⟩, by repeat (first | exact Drawn0.refl _ | apply Drawn0.step)⟩
  case rest =>
    clear HC5
    try clear p2
    try clear c3
    try clear c6
    try clear p6
    obtain ⟨kq, x19_4, rfl, HA, HJ4, ⟨mc4, rfl⟩⟩ := hcut
    cases kq with
    | zero => exact absurd HA.out (by simp [corralref1_High.j0])
    | succ kj4 =>
      have H := HA.out
      clear HA
      simp only [corralref1_High.j0] at H
      have HC7 := Aside0.mk H
      clear H
      go_upto_if 19 with (fail)
      go_cut [9] (fun v9 wc => ∃ (kq : Nat) (x9_6 : Int), v9 = .int .i64 x9_6 ∧ Aside0 (corralref1_High.j1 kq a0 a1 a2 a3 x9_6 (wrap64 (a1)) = some r) ∧ Aside0 (kq ≤ kj4) ∧ Drawn0 w wc)
      case first =>
        have H := HC7.out
        clear HC7
        by_cases c8 : x19_4 = true
        · subst c8
          have H1 : (corralref1_High.j1 kj4 a0 a1 a2 a3 (wrap64 ((wrap64 (a0)) - 4294967296)) (wrap64 (a1))) = some r := by rw [if_pos rfl] at H; exact H
          clear H
          have H := H1
          clear H1
          have H' := Aside0.mk H
          clear H
          go_wp2
          go_meet
          case rel => exact ⟨_, (wrap64 ((wrap64 (a0)) - 4294967296)), (by first | rfl | (simp; done) | (simp [*]; done)), H', ⟨by have := HJ4.out; first | omega | exact Nat.le_refl _⟩, by repeat (first | exact Drawn0.refl _ | apply Drawn0.step)⟩
        · replace c8 := Bool.eq_false_iff.mpr c8
          subst c8
          have H1 : (corralref1_High.j1 kj4 a0 a1 a2 a3 (wrap64 (a0)) (wrap64 (a1))) = some r := by rw [if_neg (show ¬ (false = true) by decide)] at H; exact H
          clear H
          have H := H1
          clear H1
          have H' := Aside0.mk H
          clear H
          go_wp2
          go_meet
          case rel => exact ⟨_, ((wrap64 (a0))), (by first | rfl | (simp; done) | (simp [*]; done)), H', ⟨by have := HJ4.out; first | omega | exact Nat.le_refl _⟩, by repeat (first | exact Drawn0.refl _ | apply Drawn0.step)⟩
      case rest =>
        clear HC7
        try clear p2
        try clear c3
        try clear c4
        try clear c6
        try clear p6
        try clear c8
        try clear p2
        try clear p6
        obtain ⟨kq, x9_6, rfl, HA, HJ6, ⟨mc6, rfl⟩⟩ := hcut
        cases kq with
        | zero => exact absurd HA.out (by simp [corralref1_High.j1])
        | succ kj6 =>
          have H := HA.out
          clear HA
          simp only [corralref1_High.j1] at H
          have HC9 := Aside0.mk H
          clear H
          go_upto_region 5 with (fail)
          go_cut [26] (fun v26 wc => ∃ (kq : Nat) (x26_8 : Bool), v26 = .bool x26_8 ∧ Aside0 (corralref1_High.j2 kq a0 a1 a2 a3 x9_6 (wrap64 (a1)) x26_8 = some r) ∧ Aside0 (kq ≤ kj6) ∧ Drawn0 w wc)
          case first =>
            have H := HC9.out
            clear HC9
            by_cases c10 : a3 = true
            · subst c10
              have H1 : (corralref1_High.j2 kj6 a0 a1 a2 true x9_6 (wrap64 (a1)) (decide (a1 ≥ 2147483648))) = some r := by rw [if_pos rfl] at H; exact H
              clear H
              have H := H1
              clear H1
              have H' := Aside0.mk H
              clear H
              go_wp2
              go_meet
              case rel => exact ⟨_, (decide (a1 ≥ 2147483648)), (by first | rfl | (simp; done) | (simp [*]; done)), H', ⟨by have := HJ4.out; have := HJ6.out; first | omega | exact Nat.le_refl _⟩, by repeat (first | exact Drawn0.refl _ | apply Drawn0.step)⟩
            · replace c10 := Bool.eq_false_iff.mpr c10
              subst c10
              have H1 : (corralref1_High.j2 kj6 a0 a1 a2 false x9_6 (wrap64 (a1)) false) = some r := by rw [if_neg (show ¬ (false = true) by decide)] at H; exact H
              clear H
              have H := H1
              clear H1
              have H' := Aside0.mk H
              clear H
              go_wp2
              go_meet
              case rel => exact ⟨_, (false), (by first | rfl | (simp; done) | (simp [*]; done)), H', ⟨by have := HJ4.out; have := HJ6.out; first | omega | exact Nat.le_refl _⟩, by repeat (first | exact Drawn0.refl _ | apply Drawn0.step)⟩
          case rest =>
            clear HC9
            try clear c1
            try clear p2
            try clear c3
            try clear c4
            try clear c6
            try clear p6
            try clear c8
            try clear c10
            try clear p2
            try clear p6
            obtain ⟨kq, x26_8, rfl, HA, HJ8, ⟨mc8, rfl⟩⟩ := hcut
            cases kq with
            | zero => exact absurd HA.out (by simp [corralref1_High.j2])
            | succ kj8 =>
              have H := HA.out
              clear HA
              simp only [corralref1_High.j2] at H
              by_cases c11 : x26_8 = true
              · subst c11
                have H1 : (if a2 = true then (some (((IntKind.u64.wrap (wrap64 (x9_6 * (wrap64 ((wrap64 (a1)) - 4294967296))))) / 4294967296) % 4294967296)) else (if a3 = true then (some (((IntKind.u64.wrap (wrap64 (x9_6 * (wrap64 ((wrap64 (a1)) - 4294967296))))) / 4294967296) % 4294967296)) else (some (((IntKind.u64.wrap ((IntKind.u64.wrap (a0)) * (IntKind.u64.wrap (a1)))) / 4294967296) % 4294967296)))) = some r := by rw [if_pos rfl] at H; exact H
                clear H
                have H := H1
                clear H1
                by_cases c12 : a2 = true
                · subst c12
                  have H1 : (some (((IntKind.u64.wrap (wrap64 (x9_6 * (wrap64 ((wrap64 (a1)) - 4294967296))))) / 4294967296) % 4294967296)) = some r := by rw [if_pos rfl] at H; exact H
                  clear H
                  have H := H1
                  clear H1
                  obtain rfl := Option.some.inj H
                  go_wp2
                  go_ret
                  exact ⟨by first | rfl | (simp; done) | (simp [*]; done), by repeat (first | exact Drawn0.refl _ | apply Drawn0.step)⟩
                · replace c12 := Bool.eq_false_iff.mpr c12
                  subst c12
                  have H1 : (if a3 = true then (some (((IntKind.u64.wrap (wrap64 (x9_6 * (wrap64 ((wrap64 (a1)) - 4294967296))))) / 4294967296) % 4294967296)) else (some (((IntKind.u64.wrap ((IntKind.u64.wrap (a0)) * (IntKind.u64.wrap (a1)))) / 4294967296) % 4294967296))) = some r := by rw [if_neg (show ¬ (false = true) by decide)] at H; exact H
                  clear H
                  have H := H1
                  clear H1
                  by_cases c13 : a3 = true
                  · subst c13
                    have H1 : (some (((IntKind.u64.wrap (wrap64 (x9_6 * (wrap64 ((wrap64 (a1)) - 4294967296))))) / 4294967296) % 4294967296)) = some r := by rw [if_pos rfl] at H; exact H
                    clear H
                    have H := H1
                    clear H1
                    obtain rfl := Option.some.inj H
                    go_wp2
                    go_ret
                    exact ⟨by first | rfl | (simp; done) | (simp [*]; done), by repeat (first | exact Drawn0.refl _ | apply Drawn0.step)⟩
                  · replace c13 := Bool.eq_false_iff.mpr c13
                    subst c13
                    have H1 : (some (((IntKind.u64.wrap ((IntKind.u64.wrap (a0)) * (IntKind.u64.wrap (a1)))) / 4294967296) % 4294967296)) = some r := by rw [if_neg (show ¬ (false = true) by decide)] at H; exact H
                    clear H
                    have H := H1
                    clear H1
                    obtain rfl := Option.some.inj H
                    go_wp2
                    go_ret
                    exact ⟨by first | rfl | (simp; done) | (simp [*]; done), by repeat (first | exact Drawn0.refl _ | apply Drawn0.step)⟩
              · replace c11 := Bool.eq_false_iff.mpr c11
                subst c11
                have H1 : (if a2 = true then (some (((IntKind.u64.wrap (wrap64 (x9_6 * (wrap64 (a1))))) / 4294967296) % 4294967296)) else (if a3 = true then (some (((IntKind.u64.wrap (wrap64 (x9_6 * (wrap64 (a1))))) / 4294967296) % 4294967296)) else (some (((IntKind.u64.wrap ((IntKind.u64.wrap (a0)) * (IntKind.u64.wrap (a1)))) / 4294967296) % 4294967296)))) = some r := by rw [if_neg (show ¬ (false = true) by decide)] at H; exact H
                clear H
                have H := H1
                clear H1
                by_cases c14 : a2 = true
                · subst c14
                  have H1 : (some (((IntKind.u64.wrap (wrap64 (x9_6 * (wrap64 (a1))))) / 4294967296) % 4294967296)) = some r := by rw [if_pos rfl] at H; exact H
                  clear H
                  have H := H1
                  clear H1
                  obtain rfl := Option.some.inj H
                  go_wp2
                  go_ret
                  exact ⟨by first | rfl | (simp; done) | (simp [*]; done), by repeat (first | exact Drawn0.refl _ | apply Drawn0.step)⟩
                · replace c14 := Bool.eq_false_iff.mpr c14
                  subst c14
                  have H1 : (if a3 = true then (some (((IntKind.u64.wrap (wrap64 (x9_6 * (wrap64 (a1))))) / 4294967296) % 4294967296)) else (some (((IntKind.u64.wrap ((IntKind.u64.wrap (a0)) * (IntKind.u64.wrap (a1)))) / 4294967296) % 4294967296))) = some r := by rw [if_neg (show ¬ (false = true) by decide)] at H; exact H
                  clear H
                  have H := H1
                  clear H1
                  by_cases c15 : a3 = true
                  · subst c15
                    have H1 : (some (((IntKind.u64.wrap (wrap64 (x9_6 * (wrap64 (a1))))) / 4294967296) % 4294967296)) = some r := by rw [if_pos rfl] at H; exact H
                    clear H
                    have H := H1
                    clear H1
                    obtain rfl := Option.some.inj H
                    go_wp2
                    go_ret
                    exact ⟨by first | rfl | (simp; done) | (simp [*]; done), by repeat (first | exact Drawn0.refl _ | apply Drawn0.step)⟩
                  · replace c15 := Bool.eq_false_iff.mpr c15
                    subst c15
                    have H1 : (some (((IntKind.u64.wrap ((IntKind.u64.wrap (a0)) * (IntKind.u64.wrap (a1)))) / 4294967296) % 4294967296)) = some r := by rw [if_neg (show ¬ (false = true) by decide)] at H; exact H
                    clear H
                    have H := H1
                    clear H1
                    obtain rfl := Option.some.inj H
                    go_wp2
                    go_ret
                    exact ⟨by first | rfl | (simp; done) | (simp [*]; done), by repeat (first | exact Drawn0.refl _ | apply Drawn0.step)⟩

/-! ### corralref1_Div: function 40 -/
def corralref1_Div.f (a0 : Int) (a1 : Int) (a2 : Bool) : Option (Int) := if a1 = 0 then (some 4294967295) else (if a2 = true then (if a1 = 4294967295 then (some ((-a0) % 4294967296)) else (if (wrap32 (a1)) = 0 then (none) else (some ((wrap32 (Int.tdiv (wrap32 (a0)) (wrap32 (a1)))) % 4294967296)))) else (some ((Int.tdiv a0 a1) % 4294967296)))
set_option maxHeartbeats 8000000 in
set_option maxRecDepth 100000 in
theorem corralref1_Div.calls (a0 : Int) (a1 : Int) (a2 : Bool) (r : Int) (w : World) (h : corralref1_Div.f a0 a1 a2 = some r) :
    Calls Try.prog 40 #[.int .u32 a0, .int .u32 a1, .bool a2] w fun e w' => e = .returned (.int .u32 r) ∧ Drawn0 w w' := by
  have H : (if a1 = 0 then (some 4294967295) else (if a2 = true then (if a1 = 4294967295 then (some ((-a0) % 4294967296)) else (if (wrap32 (a1)) = 0 then (none) else (some ((wrap32 (Int.tdiv (wrap32 (a0)) (wrap32 (a1)))) % 4294967296)))) else (some ((Int.tdiv a0 a1) % 4294967296)))) = some r := h
  clear h
  by_cases c4 : a1 = 0
  · rw [if_pos c4] at H
    have c4b0 : (a1 == 0) = true := beq_iff_eq.mpr c4
    have c4b1 : (a1 != 0) = false := bne_eq_false_iff_eq.mpr c4
    clear c4
    obtain rfl := Option.some.inj H
    go_enter Try.func40, Try.ntmps40
    go_wp2
    go_ret
    exact ⟨by first | rfl | (simp; done) | (simp [*]; done), by repeat (first | exact Drawn0.refl _ | apply Drawn0.step)⟩
  · rw [if_neg c4] at H
    have c4b0 : (a1 == 0) = false := beq_eq_false_iff_ne.mpr c4
    have c4b1 : (a1 != 0) = true := bne_iff_ne.mpr c4
    by_cases c5 : a2 = true
    · subst c5
      have H1 : (if a1 = 4294967295 then (some ((-a0) % 4294967296)) else (if (wrap32 (a1)) = 0 then (none) else (some ((wrap32 (Int.tdiv (wrap32 (a0)) (wrap32 (a1)))) % 4294967296)))) = some r := by rw [if_pos rfl] at H; exact H
      clear H
      have H := H1
      clear H1
      by_cases c6 : a1 = 4294967295
      · rw [if_pos c6] at H
        have c6b0 : (a1 == 4294967295) = true := beq_iff_eq.mpr c6
        have c6b1 : (a1 != 4294967295) = false := bne_eq_false_iff_eq.mpr c6
        clear c6
        obtain rfl := Option.some.inj H
        go_enter Try.func40, Try.ntmps40
        go_wp2
        go_ret
        exact ⟨by first | rfl | (simp; done) | (simp [*]; done), by repeat (first | exact Drawn0.refl _ | apply Drawn0.step)⟩
      · rw [if_neg c6] at H
        have c6b0 : (a1 == 4294967295) = false := beq_eq_false_iff_ne.mpr c6
        have c6b1 : (a1 != 4294967295) = true := bne_iff_ne.mpr c6
        by_cases c7 : (wrap32 (a1)) = 0
        · rw [if_pos c7] at H
          exact absurd H (by simp)
        · rw [if_neg c7] at H
          have c7b0 : ((wrap32 (a1)) == 0) = false := beq_eq_false_iff_ne.mpr c7
          have c7b1 : ((wrap32 (a1)) != 0) = true := bne_iff_ne.mpr c7
          obtain rfl := Option.some.inj H
          go_enter Try.func40, Try.ntmps40
          go_wp2
          go_ret
          exact ⟨by first | rfl | (simp; done) | (simp [*]; done), by repeat (first | exact Drawn0.refl _ | apply Drawn0.step)⟩
    · replace c5 := Bool.eq_false_iff.mpr c5
      subst c5
      have H1 : (some ((Int.tdiv a0 a1) % 4294967296)) = some r := by rw [if_neg (show ¬ (false = true) by decide)] at H; exact H
      clear H
      have H := H1
      clear H1
      obtain rfl := Option.some.inj H
      go_enter Try.func40, Try.ntmps40
      go_wp2
      go_ret
      exact ⟨by first | rfl | (simp; done) | (simp [*]; done), by repeat (first | exact Drawn0.refl _ | apply Drawn0.step)⟩

/-! ### corralref1_Rem: function 41 -/
def corralref1_Rem.f (a0 : Int) (a1 : Int) (a2 : Bool) : Option (Int) := if a1 = 0 then (some a0) else (if a2 = true then (if a1 = 4294967295 then (some 0) else (if (wrap32 (a1)) = 0 then (none) else (some ((Int.tmod (wrap32 (a0)) (wrap32 (a1))) % 4294967296)))) else (some (Int.tmod a0 a1)))
set_option maxHeartbeats 8000000 in
set_option maxRecDepth 100000 in
theorem corralref1_Rem.calls (a0 : Int) (a1 : Int) (a2 : Bool) (r : Int) (w : World) (h : corralref1_Rem.f a0 a1 a2 = some r) :
    Calls Try.prog 41 #[.int .u32 a0, .int .u32 a1, .bool a2] w fun e w' => e = .returned (.int .u32 r) ∧ Drawn0 w w' := by
  have H : (if a1 = 0 then (some a0) else (if a2 = true then (if a1 = 4294967295 then (some 0) else (if (wrap32 (a1)) = 0 then (none) else (some ((Int.tmod (wrap32 (a0)) (wrap32 (a1))) % 4294967296)))) else (some (Int.tmod a0 a1)))) = some r := h
  clear h
  by_cases c4 : a1 = 0
  · rw [if_pos c4] at H
    have c4b0 : (a1 == 0) = true := beq_iff_eq.mpr c4
    have c4b1 : (a1 != 0) = false := bne_eq_false_iff_eq.mpr c4
    clear c4
    obtain rfl := Option.some.inj H
    go_enter Try.func41, Try.ntmps41
    go_wp2
    go_ret
    exact ⟨by first | rfl | (simp; done) | (simp [*]; done), by repeat (first | exact Drawn0.refl _ | apply Drawn0.step)⟩
  · rw [if_neg c4] at H
    have c4b0 : (a1 == 0) = false := beq_eq_false_iff_ne.mpr c4
    have c4b1 : (a1 != 0) = true := bne_iff_ne.mpr c4
    by_cases c5 : a2 = true
    · subst c5
      have H1 : (if a1 = 4294967295 then (some 0) else (if (wrap32 (a1)) = 0 then (none) else (some ((Int.tmod (wrap32 (a0)) (wrap32 (a1))) % 4294967296)))) = some r := by rw [if_pos rfl] at H; exact H
      clear H
      have H := H1
      clear H1
      by_cases c6 : a1 = 4294967295
      · rw [if_pos c6] at H
        have c6b0 : (a1 == 4294967295) = true := beq_iff_eq.mpr c6
        have c6b1 : (a1 != 4294967295) = false := bne_eq_false_iff_eq.mpr c6
        clear c6
        obtain rfl := Option.some.inj H
        go_enter Try.func41, Try.ntmps41
        go_wp2
        go_ret
        exact ⟨by first | rfl | (simp; done) | (simp [*]; done), by repeat (first | exact Drawn0.refl _ | apply Drawn0.step)⟩
      · rw [if_neg c6] at H
        have c6b0 : (a1 == 4294967295) = false := beq_eq_false_iff_ne.mpr c6
        have c6b1 : (a1 != 4294967295) = true := bne_iff_ne.mpr c6
        by_cases c7 : (wrap32 (a1)) = 0
        · rw [if_pos c7] at H
          exact absurd H (by simp)
        · rw [if_neg c7] at H
          have c7b0 : ((wrap32 (a1)) == 0) = false := beq_eq_false_iff_ne.mpr c7
          have c7b1 : ((wrap32 (a1)) != 0) = true := bne_iff_ne.mpr c7
          obtain rfl := Option.some.inj H
          go_enter Try.func41, Try.ntmps41
          go_wp2
          go_ret
          exact ⟨by first | rfl | (simp; done) | (simp [*]; done), by repeat (first | exact Drawn0.refl _ | apply Drawn0.step)⟩
    · replace c5 := Bool.eq_false_iff.mpr c5
      subst c5
      have H1 : (some (Int.tmod a0 a1)) = some r := by rw [if_neg (show ¬ (false = true) by decide)] at H; exact H
      clear H
      have H := H1
      clear H1
      obtain rfl := Option.some.inj H
      go_enter Try.func41, Try.ntmps41
      go_wp2
      go_ret
      exact ⟨by first | rfl | (simp; done) | (simp [*]; done), by repeat (first | exact Drawn0.refl _ | apply Drawn0.step)⟩

/-! ### corralref1_Less: function 42 -/
def corralref1_Less.f (a0 : Int) (a1 : Int) (a2 : Bool) : Option (Bool) := if a2 = true then (some (decide ((wrap32 (a0)) < (wrap32 (a1))))) else (some (decide (a0 < a1)))
set_option maxHeartbeats 8000000 in
set_option maxRecDepth 100000 in
theorem corralref1_Less.calls (a0 : Int) (a1 : Int) (a2 : Bool) (r : Bool) (w : World) (h : corralref1_Less.f a0 a1 a2 = some r) :
    Calls Try.prog 42 #[.int .u32 a0, .int .u32 a1, .bool a2] w fun e w' => e = .returned (.bool r) ∧ Drawn0 w w' := by
  have H : (if a2 = true then (some (decide ((wrap32 (a0)) < (wrap32 (a1))))) else (some (decide (a0 < a1)))) = some r := h
  clear h
  by_cases c4 : a2 = true
  · subst c4
    have H1 : (some (decide ((wrap32 (a0)) < (wrap32 (a1))))) = some r := by rw [if_pos rfl] at H; exact H
    clear H
    have H := H1
    clear H1
    obtain rfl := Option.some.inj H
    go_enter Try.func42, Try.ntmps42
    go_wp2
    go_ret
    exact ⟨by first | rfl | (simp; done) | (simp [*]; done), by repeat (first | exact Drawn0.refl _ | apply Drawn0.step)⟩
  · replace c4 := Bool.eq_false_iff.mpr c4
    subst c4
    have H1 : (some (decide (a0 < a1))) = some r := by rw [if_neg (show ¬ (false = true) by decide)] at H; exact H
    clear H
    have H := H1
    clear H1
    obtain rfl := Option.some.inj H
    go_enter Try.func42, Try.ntmps42
    go_wp2
    go_ret
    exact ⟨by first | rfl | (simp; done) | (simp [*]; done), by repeat (first | exact Drawn0.refl _ | apply Drawn0.step)⟩

end Go.Proofs.Ythpaieglgjjbiaa.QWordSays
