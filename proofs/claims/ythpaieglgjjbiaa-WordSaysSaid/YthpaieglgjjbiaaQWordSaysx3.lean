-- Laid by a program of this session (wip/tpl/mine.sh), out of the program's form in Lean: Lean checks it.
import Derived.Test.YthpaieglgjjbiaaQWordSaysx0
import Derived.Test.YthpaieglgjjbiaaQWordSaysx1
import Derived.Test.YthpaieglgjjbiaaQWordSaysx2
namespace Go.Proofs.Ythpaieglgjjbiaa.QWordSays
open Go.RowKit Go.Proofs.YthpaieglgjjbiaaW.PrintWords Go.Proofs.YthpaieglgjjbiaaW.PrintLast Go.Proofs.YthpaieglgjjbiaaW.PrintMore
attribute [local go_sem] max2_int min2_int max_two min_two max_three min_three max_four min_four   -- for this text's walks alone
set_option linter.unusedVariables false
set_option linter.unusedSimpArgs false

/-! ### corralref1_Right: function 43 -/
def corralref1_Right.f (a0 : Int) (a1 : Int) (a2 : Bool) : Option (Int) := if a2 = true then (if 0 ≤ (IntKind.u64.wrap (Go.bits .and .i64 a1 31)) then (some ((shr .i32 (wrap32 (a0)) (IntKind.u64.wrap (Go.bits .and .i64 a1 31))) % 4294967296)) else (none)) else (if 0 ≤ (IntKind.u64.wrap (Go.bits .and .i64 a1 31)) then (some (shr .u32 a0 (IntKind.u64.wrap (Go.bits .and .i64 a1 31)))) else (none))
set_option maxHeartbeats 8000000 in
set_option maxRecDepth 100000 in
theorem corralref1_Right.calls (a0 : Int) (a1 : Int) (a2 : Bool) (r : Int) (w : World) (h : corralref1_Right.f a0 a1 a2 = some r) :
    Calls Try.prog 43 #[.int .u32 a0, .int .i64 a1, .bool a2] w fun e w' => e = .returned (.int .u32 r) ∧ Drawn0 w w' := by
  have H : (if a2 = true then (if 0 ≤ (IntKind.u64.wrap (Go.bits .and .i64 a1 31)) then (some ((shr .i32 (wrap32 (a0)) (IntKind.u64.wrap (Go.bits .and .i64 a1 31))) % 4294967296)) else (none)) else (if 0 ≤ (IntKind.u64.wrap (Go.bits .and .i64 a1 31)) then (some (shr .u32 a0 (IntKind.u64.wrap (Go.bits .and .i64 a1 31)))) else (none))) = some r := h
  clear h
  by_cases c4 : a2 = true
  · subst c4
    have H1 : (if 0 ≤ (IntKind.u64.wrap (Go.bits .and .i64 a1 31)) then (some ((shr .i32 (wrap32 (a0)) (IntKind.u64.wrap (Go.bits .and .i64 a1 31))) % 4294967296)) else (none)) = some r := by rw [if_pos rfl] at H; exact H
    clear H
    have H := H1
    clear H1
    obtain ⟨ji5, hji5⟩ : ∃ j_ : Int, (IntKind.u64.wrap (Go.bits .and .i64 a1 31)) = j_ := ⟨_, rfl⟩
    replace H : (if 0 ≤ (ji5) then (some ((shr .i32 (wrap32 (a0)) (ji5)) % 4294967296)) else (none)) = some r := by first | (rw [hji5] at H; exact H) | (simp only [hji5] at H ⊢; exact H)
    by_cases c6 : 0 ≤ (ji5)
    · rw [if_pos c6] at H
      have c6b0 := eq_true c6
      have c6b1 : decide (0 ≤ (ji5)) = true := decide_eq_true c6
      clear c6
      obtain ⟨ji7, hji7⟩ : ∃ j_ : Int, (shr .i32 (wrap32 (a0)) (ji5)) = j_ := ⟨_, rfl⟩
      replace H : (some ((ji7) % 4294967296)) = some r := by first | (rw [hji7] at H; exact H) | (simp only [hji7] at H ⊢; exact H)
      have hji7_ : ((wrap32 (a0)) / 2 ^ min (ji5).toNat 32) = ji7 := hji7
      have hji7z : (ji5) ≤ 32 → ((wrap32 (a0)) / 2 ^ (ji5).toNat) = ji7 := shr_small hji7
      obtain rfl := Option.some.inj H
      go_enter Try.func43, Try.ntmps43
      go_wp2
      go_ret
      exact ⟨by first | rfl | (simp; done) | (simp only [← hji5, ← hji7] <;> (first | rfl | simp)) | (simp [*]; done), by repeat (first | exact Drawn0.refl _ | apply Drawn0.step)⟩
    · rw [if_neg c6] at H
      exact absurd H (by simp)
  · replace c4 := Bool.eq_false_iff.mpr c4
    subst c4
    have H1 : (if 0 ≤ (IntKind.u64.wrap (Go.bits .and .i64 a1 31)) then (some (shr .u32 a0 (IntKind.u64.wrap (Go.bits .and .i64 a1 31)))) else (none)) = some r := by rw [if_neg (show ¬ (false = true) by decide)] at H; exact H
    clear H
    have H := H1
    clear H1
    obtain ⟨ji8, hji8⟩ : ∃ j_ : Int, (IntKind.u64.wrap (Go.bits .and .i64 a1 31)) = j_ := ⟨_, rfl⟩
    replace H : (if 0 ≤ (ji8) then (some (shr .u32 a0 (ji8))) else (none)) = some r := by first | (rw [hji8] at H; exact H) | (simp only [hji8] at H ⊢; exact H)
    by_cases c9 : 0 ≤ (ji8)
    · rw [if_pos c9] at H
      have c9b0 := eq_true c9
      have c9b1 : decide (0 ≤ (ji8)) = true := decide_eq_true c9
      clear c9
      obtain ⟨ji10, hji10⟩ : ∃ j_ : Int, (shr .u32 a0 (ji8)) = j_ := ⟨_, rfl⟩
      replace H : (some ji10) = some r := by first | (rw [hji10] at H; exact H) | (simp only [hji10] at H ⊢; exact H)
      have hji10_ : (a0 / 2 ^ min (ji8).toNat 32) = ji10 := hji10
      have hji10z : (ji8) ≤ 32 → (a0 / 2 ^ (ji8).toNat) = ji10 := shr_small hji10
      obtain rfl := Option.some.inj H
      go_enter Try.func43, Try.ntmps43
      go_wp2
      go_ret
      exact ⟨by first | rfl | (simp; done) | (simp only [← hji8, ← hji10] <;> (first | rfl | simp)) | (simp [*]; done), by repeat (first | exact Drawn0.refl _ | apply Drawn0.step)⟩
    · rw [if_neg c9] at H
      exact absurd H (by simp)

/-! ### corrallaw1_WordSays: function 12 -/
def corrallaw1_WordSays.f (k : Nat) (a0 : Int) (a1 : Int) (a2 : Int) (a3 : Int) (a4 : Bool) (a5 : Bool) : Option (Bool) := (corrallaw1_first.f k).bind fun t114 => (if t114 = true then ((word_Sign.f a0 a3).bind fun t115 => ((corralref1_Sign.f a0 a3).bind fun t116 => (if t115 = t116 then ((word_Bits.f a0 a2 a3).bind fun t117 => ((corralref1_Bits.f k a0 a2 a3).bind fun t118 => (if t117 = t118 then ((word_High.f a0 a1 a4 a5).bind fun t119 => ((corralref1_High.f k a0 a1 a4 a5).bind fun t120 => (if t119 = t120 then ((word_Div.f k a0 a1 a4).bind fun t121 => ((corralref1_Div.f a0 a1 a4).bind fun t122 => (if t121 = t122 then ((word_Rem.f k a0 a1 a4).bind fun t123 => ((corralref1_Rem.f a0 a1 a4).bind fun t124 => (if t123 = t124 then ((word_Less.f a0 a1 a4).bind fun t125 => ((corralref1_Less.f a0 a1 a4).bind fun t126 => (if (t125 == t126) = true then ((word_Right.f a0 a3 a4).bind fun t127 => ((corralref1_Right.f a0 a3 a4).bind fun t128 => (if t127 = t128 then ((word_Left.f a0 a3).bind fun t129 => (if 0 ≤ (IntKind.u64.wrap (Go.bits .and .i64 a3 31)) then (some (t129 == (shl .u32 a0 (IntKind.u64.wrap (Go.bits .and .i64 a3 31))))) else (none))) else (some false)))) else (some false)))) else (some false)))) else (some false)))) else (some false)))) else (some false)))) else (some false)))) else (some false))
theorem corrallaw1_WordSays.mono : ∀ a0 a1 a2 a3 a4 a5 k, LeO (corrallaw1_WordSays.f k a0 a1 a2 a3 a4 a5) (corrallaw1_WordSays.f (k + 1) a0 a1 a2 a3 a4 a5) := by
  intro a0 a1 a2 a3 a4 a5 k
  unfold corrallaw1_WordSays.f
  repeat' first
      | (with_reducible exact corrallaw1_first.mono _)
      | (with_reducible exact corralref1_Bits.mono _ _ _ _)
      | (with_reducible exact corralref1_High.mono _ _ _ _ _)
      | (with_reducible exact word_Div.mono _ _ _ _)
      | (with_reducible exact word_Rem.mono _ _ _ _)
      | (with_reducible exact LeO.refl _)
      | (with_reducible exact LeO.none _)
      | (with_reducible refine LeO.ite ?_ ?_)
      | (with_reducible refine LeO.bind ?_ (fun _ => ?_))
      | exact corrallaw1_first.mono _
      | exact corralref1_Bits.mono _ _ _ _
      | exact corralref1_High.mono _ _ _ _ _
      | exact word_Div.mono _ _ _ _
      | exact word_Rem.mono _ _ _ _
      | exact LeO.none _
      | refine LeO.ite ?_ ?_
      | refine LeO.bind ?_ (fun _ => ?_)
set_option maxHeartbeats 8000000 in
set_option maxRecDepth 100000 in
theorem corrallaw1_WordSays.calls (k : Nat) (a0 : Int) (a1 : Int) (a2 : Int) (a3 : Int) (a4 : Bool) (a5 : Bool) (r : Bool) (w : World) (h : corrallaw1_WordSays.f k a0 a1 a2 a3 a4 a5 = some r) (hr0 : r = true) :
    Calls Try.prog 12 #[.int .u32 a0, .int .u32 a1, .int .i64 a2, .int .i64 a3, .bool a4, .bool a5] w fun e w' => e = .returned (.bool r) ∧ Below w.heap.size w w' := by
  have HB := Aside0.mk (Below.refl w.heap.size w)
  have H : ((corrallaw1_first.f k).bind fun t114 => (if t114 = true then ((word_Sign.f a0 a3).bind fun t115 => ((corralref1_Sign.f a0 a3).bind fun t116 => (if t115 = t116 then ((word_Bits.f a0 a2 a3).bind fun t117 => ((corralref1_Bits.f k a0 a2 a3).bind fun t118 => (if t117 = t118 then ((word_High.f a0 a1 a4 a5).bind fun t119 => ((corralref1_High.f k a0 a1 a4 a5).bind fun t120 => (if t119 = t120 then ((word_Div.f k a0 a1 a4).bind fun t121 => ((corralref1_Div.f a0 a1 a4).bind fun t122 => (if t121 = t122 then ((word_Rem.f k a0 a1 a4).bind fun t123 => ((corralref1_Rem.f a0 a1 a4).bind fun t124 => (if t123 = t124 then ((word_Less.f a0 a1 a4).bind fun t125 => ((corralref1_Less.f a0 a1 a4).bind fun t126 => (if (t125 == t126) = true then ((word_Right.f a0 a3 a4).bind fun t127 => ((corralref1_Right.f a0 a3 a4).bind fun t128 => (if t127 = t128 then ((word_Left.f a0 a3).bind fun t129 => (if 0 ≤ (IntKind.u64.wrap (Go.bits .and .i64 a3 31)) then (some (t129 == (shl .u32 a0 (IntKind.u64.wrap (Go.bits .and .i64 a3 31))))) else (none))) else (some false)))) else (some false)))) else (some false)))) else (some false)))) else (some false)))) else (some false)))) else (some false)))) else (some false))) = some r := h
  clear h
  have HRT := Aside0.mk hr0
  clear hr0
  replace H := Option.bind_eq_some_iff.mp H
  obtain ⟨t114, A70, H⟩ := H
  replace H : (if t114 = true then ((word_Sign.f a0 a3).bind fun t115 => ((corralref1_Sign.f a0 a3).bind fun t116 => (if t115 = t116 then ((word_Bits.f a0 a2 a3).bind fun t117 => ((corralref1_Bits.f k a0 a2 a3).bind fun t118 => (if t117 = t118 then ((word_High.f a0 a1 a4 a5).bind fun t119 => ((corralref1_High.f k a0 a1 a4 a5).bind fun t120 => (if t119 = t120 then ((word_Div.f k a0 a1 a4).bind fun t121 => ((corralref1_Div.f a0 a1 a4).bind fun t122 => (if t121 = t122 then ((word_Rem.f k a0 a1 a4).bind fun t123 => ((corralref1_Rem.f a0 a1 a4).bind fun t124 => (if t123 = t124 then ((word_Less.f a0 a1 a4).bind fun t125 => ((corralref1_Less.f a0 a1 a4).bind fun t126 => (if (t125 == t126) = true then ((word_Right.f a0 a3 a4).bind fun t127 => ((corralref1_Right.f a0 a3 a4).bind fun t128 => (if t127 = t128 then ((word_Left.f a0 a3).bind fun t129 => (if 0 ≤ (IntKind.u64.wrap (Go.bits .and .i64 a3 31)) then (some (t129 == (shl .u32 a0 (IntKind.u64.wrap (Go.bits .and .i64 a3 31))))) else (none))) else (some false)))) else (some false)))) else (some false)))) else (some false)))) else (some false)))) else (some false)))) else (some false)))) else (some false)) = some r := H
  have A7 := Aside0.mk A70
  clear A70
  by_cases c8 : t114 = true
  · subst c8
    have H1 : ((word_Sign.f a0 a3).bind fun t115 => ((corralref1_Sign.f a0 a3).bind fun t116 => (if t115 = t116 then ((word_Bits.f a0 a2 a3).bind fun t117 => ((corralref1_Bits.f k a0 a2 a3).bind fun t118 => (if t117 = t118 then ((word_High.f a0 a1 a4 a5).bind fun t119 => ((corralref1_High.f k a0 a1 a4 a5).bind fun t120 => (if t119 = t120 then ((word_Div.f k a0 a1 a4).bind fun t121 => ((corralref1_Div.f a0 a1 a4).bind fun t122 => (if t121 = t122 then ((word_Rem.f k a0 a1 a4).bind fun t123 => ((corralref1_Rem.f a0 a1 a4).bind fun t124 => (if t123 = t124 then ((word_Less.f a0 a1 a4).bind fun t125 => ((corralref1_Less.f a0 a1 a4).bind fun t126 => (if (t125 == t126) = true then ((word_Right.f a0 a3 a4).bind fun t127 => ((corralref1_Right.f a0 a3 a4).bind fun t128 => (if t127 = t128 then ((word_Left.f a0 a3).bind fun t129 => (if 0 ≤ (IntKind.u64.wrap (Go.bits .and .i64 a3 31)) then (some (t129 == (shl .u32 a0 (IntKind.u64.wrap (Go.bits .and .i64 a3 31))))) else (none))) else (some false)))) else (some false)))) else (some false)))) else (some false)))) else (some false)))) else (some false)))) else (some false)))) = some r := by rw [if_pos rfl] at H; exact H
    clear H
    have H := H1
    clear H1
    replace H := Option.bind_eq_some_iff.mp H
    obtain ⟨t115, A90, H⟩ := H
    replace H : ((corralref1_Sign.f a0 a3).bind fun t116 => (if t115 = t116 then ((word_Bits.f a0 a2 a3).bind fun t117 => ((corralref1_Bits.f k a0 a2 a3).bind fun t118 => (if t117 = t118 then ((word_High.f a0 a1 a4 a5).bind fun t119 => ((corralref1_High.f k a0 a1 a4 a5).bind fun t120 => (if t119 = t120 then ((word_Div.f k a0 a1 a4).bind fun t121 => ((corralref1_Div.f a0 a1 a4).bind fun t122 => (if t121 = t122 then ((word_Rem.f k a0 a1 a4).bind fun t123 => ((corralref1_Rem.f a0 a1 a4).bind fun t124 => (if t123 = t124 then ((word_Less.f a0 a1 a4).bind fun t125 => ((corralref1_Less.f a0 a1 a4).bind fun t126 => (if (t125 == t126) = true then ((word_Right.f a0 a3 a4).bind fun t127 => ((corralref1_Right.f a0 a3 a4).bind fun t128 => (if t127 = t128 then ((word_Left.f a0 a3).bind fun t129 => (if 0 ≤ (IntKind.u64.wrap (Go.bits .and .i64 a3 31)) then (some (t129 == (shl .u32 a0 (IntKind.u64.wrap (Go.bits .and .i64 a3 31))))) else (none))) else (some false)))) else (some false)))) else (some false)))) else (some false)))) else (some false)))) else (some false)))) else (some false))) = some r := H
    have A9 := Aside0.mk A90
    clear A90
    replace H := Option.bind_eq_some_iff.mp H
    obtain ⟨t116, A100, H⟩ := H
    replace H : (if t115 = t116 then ((word_Bits.f a0 a2 a3).bind fun t117 => ((corralref1_Bits.f k a0 a2 a3).bind fun t118 => (if t117 = t118 then ((word_High.f a0 a1 a4 a5).bind fun t119 => ((corralref1_High.f k a0 a1 a4 a5).bind fun t120 => (if t119 = t120 then ((word_Div.f k a0 a1 a4).bind fun t121 => ((corralref1_Div.f a0 a1 a4).bind fun t122 => (if t121 = t122 then ((word_Rem.f k a0 a1 a4).bind fun t123 => ((corralref1_Rem.f a0 a1 a4).bind fun t124 => (if t123 = t124 then ((word_Less.f a0 a1 a4).bind fun t125 => ((corralref1_Less.f a0 a1 a4).bind fun t126 => (if (t125 == t126) = true then ((word_Right.f a0 a3 a4).bind fun t127 => ((corralref1_Right.f a0 a3 a4).bind fun t128 => (if t127 = t128 then ((word_Left.f a0 a3).bind fun t129 => (if 0 ≤ (IntKind.u64.wrap (Go.bits .and .i64 a3 31)) then (some (t129 == (shl .u32 a0 (IntKind.u64.wrap (Go.bits .and .i64 a3 31))))) else (none))) else (some false)))) else (some false)))) else (some false)))) else (some false)))) else (some false)))) else (some false)))) else (some false)) = some r := H
    have A10 := Aside0.mk A100
    clear A100
    by_cases c11 : t115 = t116
    · rw [if_pos c11] at H
      have c11b0 : (t115 == t116) = true := beq_iff_eq.mpr c11
      have c11b1 : (t115 != t116) = false := bne_eq_false_iff_eq.mpr c11
      clear c11
      replace H := Option.bind_eq_some_iff.mp H
      obtain ⟨t117, A120, H⟩ := H
      replace H : ((corralref1_Bits.f k a0 a2 a3).bind fun t118 => (if t117 = t118 then ((word_High.f a0 a1 a4 a5).bind fun t119 => ((corralref1_High.f k a0 a1 a4 a5).bind fun t120 => (if t119 = t120 then ((word_Div.f k a0 a1 a4).bind fun t121 => ((corralref1_Div.f a0 a1 a4).bind fun t122 => (if t121 = t122 then ((word_Rem.f k a0 a1 a4).bind fun t123 => ((corralref1_Rem.f a0 a1 a4).bind fun t124 => (if t123 = t124 then ((word_Less.f a0 a1 a4).bind fun t125 => ((corralref1_Less.f a0 a1 a4).bind fun t126 => (if (t125 == t126) = true then ((word_Right.f a0 a3 a4).bind fun t127 => ((corralref1_Right.f a0 a3 a4).bind fun t128 => (if t127 = t128 then ((word_Left.f a0 a3).bind fun t129 => (if 0 ≤ (IntKind.u64.wrap (Go.bits .and .i64 a3 31)) then (some (t129 == (shl .u32 a0 (IntKind.u64.wrap (Go.bits .and .i64 a3 31))))) else (none))) else (some false)))) else (some false)))) else (some false)))) else (some false)))) else (some false)))) else (some false))) = some r := H
      have A12 := Aside0.mk A120
      clear A120
      replace H := Option.bind_eq_some_iff.mp H
      obtain ⟨t118, A130, H⟩ := H
      replace H : (if t117 = t118 then ((word_High.f a0 a1 a4 a5).bind fun t119 => ((corralref1_High.f k a0 a1 a4 a5).bind fun t120 => (if t119 = t120 then ((word_Div.f k a0 a1 a4).bind fun t121 => ((corralref1_Div.f a0 a1 a4).bind fun t122 => (if t121 = t122 then ((word_Rem.f k a0 a1 a4).bind fun t123 => ((corralref1_Rem.f a0 a1 a4).bind fun t124 => (if t123 = t124 then ((word_Less.f a0 a1 a4).bind fun t125 => ((corralref1_Less.f a0 a1 a4).bind fun t126 => (if (t125 == t126) = true then ((word_Right.f a0 a3 a4).bind fun t127 => ((corralref1_Right.f a0 a3 a4).bind fun t128 => (if t127 = t128 then ((word_Left.f a0 a3).bind fun t129 => (if 0 ≤ (IntKind.u64.wrap (Go.bits .and .i64 a3 31)) then (some (t129 == (shl .u32 a0 (IntKind.u64.wrap (Go.bits .and .i64 a3 31))))) else (none))) else (some false)))) else (some false)))) else (some false)))) else (some false)))) else (some false)))) else (some false)) = some r := H
      have A13 := Aside0.mk A130
      clear A130
      by_cases c14 : t117 = t118
      · rw [if_pos c14] at H
        have c14b0 : (t117 == t118) = true := beq_iff_eq.mpr c14
        have c14b1 : (t117 != t118) = false := bne_eq_false_iff_eq.mpr c14
        clear c14
        replace H := Option.bind_eq_some_iff.mp H
        obtain ⟨t119, A150, H⟩ := H
        replace H : ((corralref1_High.f k a0 a1 a4 a5).bind fun t120 => (if t119 = t120 then ((word_Div.f k a0 a1 a4).bind fun t121 => ((corralref1_Div.f a0 a1 a4).bind fun t122 => (if t121 = t122 then ((word_Rem.f k a0 a1 a4).bind fun t123 => ((corralref1_Rem.f a0 a1 a4).bind fun t124 => (if t123 = t124 then ((word_Less.f a0 a1 a4).bind fun t125 => ((corralref1_Less.f a0 a1 a4).bind fun t126 => (if (t125 == t126) = true then ((word_Right.f a0 a3 a4).bind fun t127 => ((corralref1_Right.f a0 a3 a4).bind fun t128 => (if t127 = t128 then ((word_Left.f a0 a3).bind fun t129 => (if 0 ≤ (IntKind.u64.wrap (Go.bits .and .i64 a3 31)) then (some (t129 == (shl .u32 a0 (IntKind.u64.wrap (Go.bits .and .i64 a3 31))))) else (none))) else (some false)))) else (some false)))) else (some false)))) else (some false)))) else (some false))) = some r := H
        have A15 := Aside0.mk A150
        clear A150
        replace H := Option.bind_eq_some_iff.mp H
        obtain ⟨t120, A160, H⟩ := H
        replace H : (if t119 = t120 then ((word_Div.f k a0 a1 a4).bind fun t121 => ((corralref1_Div.f a0 a1 a4).bind fun t122 => (if t121 = t122 then ((word_Rem.f k a0 a1 a4).bind fun t123 => ((corralref1_Rem.f a0 a1 a4).bind fun t124 => (if t123 = t124 then ((word_Less.f a0 a1 a4).bind fun t125 => ((corralref1_Less.f a0 a1 a4).bind fun t126 => (if (t125 == t126) = true then ((word_Right.f a0 a3 a4).bind fun t127 => ((corralref1_Right.f a0 a3 a4).bind fun t128 => (if t127 = t128 then ((word_Left.f a0 a3).bind fun t129 => (if 0 ≤ (IntKind.u64.wrap (Go.bits .and .i64 a3 31)) then (some (t129 == (shl .u32 a0 (IntKind.u64.wrap (Go.bits .and .i64 a3 31))))) else (none))) else (some false)))) else (some false)))) else (some false)))) else (some false)))) else (some false)) = some r := H
        have A16 := Aside0.mk A160
        clear A160
        by_cases c17 : t119 = t120
        · rw [if_pos c17] at H
          have c17b0 : (t119 == t120) = true := beq_iff_eq.mpr c17
          have c17b1 : (t119 != t120) = false := bne_eq_false_iff_eq.mpr c17
          clear c17
          replace H := Option.bind_eq_some_iff.mp H
          obtain ⟨t121, A180, H⟩ := H
          replace H : ((corralref1_Div.f a0 a1 a4).bind fun t122 => (if t121 = t122 then ((word_Rem.f k a0 a1 a4).bind fun t123 => ((corralref1_Rem.f a0 a1 a4).bind fun t124 => (if t123 = t124 then ((word_Less.f a0 a1 a4).bind fun t125 => ((corralref1_Less.f a0 a1 a4).bind fun t126 => (if (t125 == t126) = true then ((word_Right.f a0 a3 a4).bind fun t127 => ((corralref1_Right.f a0 a3 a4).bind fun t128 => (if t127 = t128 then ((word_Left.f a0 a3).bind fun t129 => (if 0 ≤ (IntKind.u64.wrap (Go.bits .and .i64 a3 31)) then (some (t129 == (shl .u32 a0 (IntKind.u64.wrap (Go.bits .and .i64 a3 31))))) else (none))) else (some false)))) else (some false)))) else (some false)))) else (some false))) = some r := H
          have A18 := Aside0.mk A180
          clear A180
          replace H := Option.bind_eq_some_iff.mp H
          obtain ⟨t122, A190, H⟩ := H
          replace H : (if t121 = t122 then ((word_Rem.f k a0 a1 a4).bind fun t123 => ((corralref1_Rem.f a0 a1 a4).bind fun t124 => (if t123 = t124 then ((word_Less.f a0 a1 a4).bind fun t125 => ((corralref1_Less.f a0 a1 a4).bind fun t126 => (if (t125 == t126) = true then ((word_Right.f a0 a3 a4).bind fun t127 => ((corralref1_Right.f a0 a3 a4).bind fun t128 => (if t127 = t128 then ((word_Left.f a0 a3).bind fun t129 => (if 0 ≤ (IntKind.u64.wrap (Go.bits .and .i64 a3 31)) then (some (t129 == (shl .u32 a0 (IntKind.u64.wrap (Go.bits .and .i64 a3 31))))) else (none))) else (some false)))) else (some false)))) else (some false)))) else (some false)) = some r := H
          have A19 := Aside0.mk A190
          clear A190
          by_cases c20 : t121 = t122
          · rw [if_pos c20] at H
            have c20b0 : (t121 == t122) = true := beq_iff_eq.mpr c20
            have c20b1 : (t121 != t122) = false := bne_eq_false_iff_eq.mpr c20
            clear c20
            replace H := Option.bind_eq_some_iff.mp H
            obtain ⟨t123, A210, H⟩ := H
            replace H : ((corralref1_Rem.f a0 a1 a4).bind fun t124 => (if t123 = t124 then ((word_Less.f a0 a1 a4).bind fun t125 => ((corralref1_Less.f a0 a1 a4).bind fun t126 => (if (t125 == t126) = true then ((word_Right.f a0 a3 a4).bind fun t127 => ((corralref1_Right.f a0 a3 a4).bind fun t128 => (if t127 = t128 then ((word_Left.f a0 a3).bind fun t129 => (if 0 ≤ (IntKind.u64.wrap (Go.bits .and .i64 a3 31)) then (some (t129 == (shl .u32 a0 (IntKind.u64.wrap (Go.bits .and .i64 a3 31))))) else (none))) else (some false)))) else (some false)))) else (some false))) = some r := H
            have A21 := Aside0.mk A210
            clear A210
            replace H := Option.bind_eq_some_iff.mp H
            obtain ⟨t124, A220, H⟩ := H
            replace H : (if t123 = t124 then ((word_Less.f a0 a1 a4).bind fun t125 => ((corralref1_Less.f a0 a1 a4).bind fun t126 => (if (t125 == t126) = true then ((word_Right.f a0 a3 a4).bind fun t127 => ((corralref1_Right.f a0 a3 a4).bind fun t128 => (if t127 = t128 then ((word_Left.f a0 a3).bind fun t129 => (if 0 ≤ (IntKind.u64.wrap (Go.bits .and .i64 a3 31)) then (some (t129 == (shl .u32 a0 (IntKind.u64.wrap (Go.bits .and .i64 a3 31))))) else (none))) else (some false)))) else (some false)))) else (some false)) = some r := H
            have A22 := Aside0.mk A220
            clear A220
            by_cases c23 : t123 = t124
            · rw [if_pos c23] at H
              have c23b0 : (t123 == t124) = true := beq_iff_eq.mpr c23
              have c23b1 : (t123 != t124) = false := bne_eq_false_iff_eq.mpr c23
              clear c23
              replace H := Option.bind_eq_some_iff.mp H
              obtain ⟨t125, A240, H⟩ := H
              replace H : ((corralref1_Less.f a0 a1 a4).bind fun t126 => (if (t125 == t126) = true then ((word_Right.f a0 a3 a4).bind fun t127 => ((corralref1_Right.f a0 a3 a4).bind fun t128 => (if t127 = t128 then ((word_Left.f a0 a3).bind fun t129 => (if 0 ≤ (IntKind.u64.wrap (Go.bits .and .i64 a3 31)) then (some (t129 == (shl .u32 a0 (IntKind.u64.wrap (Go.bits .and .i64 a3 31))))) else (none))) else (some false)))) else (some false))) = some r := H
              have A24 := Aside0.mk A240
              clear A240
              replace H := Option.bind_eq_some_iff.mp H
              obtain ⟨t126, A250, H⟩ := H
              replace H : (if (t125 == t126) = true then ((word_Right.f a0 a3 a4).bind fun t127 => ((corralref1_Right.f a0 a3 a4).bind fun t128 => (if t127 = t128 then ((word_Left.f a0 a3).bind fun t129 => (if 0 ≤ (IntKind.u64.wrap (Go.bits .and .i64 a3 31)) then (some (t129 == (shl .u32 a0 (IntKind.u64.wrap (Go.bits .and .i64 a3 31))))) else (none))) else (some false)))) else (some false)) = some r := H
              have A25 := Aside0.mk A250
              clear A250
              by_cases c26 : (t125 == t126) = true
              · rw [if_pos c26] at H
                have c26b0 : (t125 == t126) = true := c26
                (try (have c26b1 : decide (t125 = t126) = true := by simpa using c26))
                (try (have c26b2 : (t125 == t126) = true := by simpa using c26))
                clear c26
                replace H := Option.bind_eq_some_iff.mp H
                obtain ⟨t127, A270, H⟩ := H
                replace H : ((corralref1_Right.f a0 a3 a4).bind fun t128 => (if t127 = t128 then ((word_Left.f a0 a3).bind fun t129 => (if 0 ≤ (IntKind.u64.wrap (Go.bits .and .i64 a3 31)) then (some (t129 == (shl .u32 a0 (IntKind.u64.wrap (Go.bits .and .i64 a3 31))))) else (none))) else (some false))) = some r := H
                have A27 := Aside0.mk A270
                clear A270
                replace H := Option.bind_eq_some_iff.mp H
                obtain ⟨t128, A280, H⟩ := H
                replace H : (if t127 = t128 then ((word_Left.f a0 a3).bind fun t129 => (if 0 ≤ (IntKind.u64.wrap (Go.bits .and .i64 a3 31)) then (some (t129 == (shl .u32 a0 (IntKind.u64.wrap (Go.bits .and .i64 a3 31))))) else (none))) else (some false)) = some r := H
                have A28 := Aside0.mk A280
                clear A280
                by_cases c29 : t127 = t128
                · rw [if_pos c29] at H
                  have c29b0 : (t127 == t128) = true := beq_iff_eq.mpr c29
                  have c29b1 : (t127 != t128) = false := bne_eq_false_iff_eq.mpr c29
                  clear c29
                  replace H := Option.bind_eq_some_iff.mp H
                  obtain ⟨t129, A300, H⟩ := H
                  replace H : (if 0 ≤ (IntKind.u64.wrap (Go.bits .and .i64 a3 31)) then (some (t129 == (shl .u32 a0 (IntKind.u64.wrap (Go.bits .and .i64 a3 31))))) else (none)) = some r := H
                  have A30 := Aside0.mk A300
                  clear A300
                  obtain ⟨ji31, hji31⟩ : ∃ j_ : Int, (IntKind.u64.wrap (Go.bits .and .i64 a3 31)) = j_ := ⟨_, rfl⟩
                  replace H : (if 0 ≤ (ji31) then (some (t129 == (shl .u32 a0 (ji31)))) else (none)) = some r := by first | (rw [hji31] at H; exact H) | (simp only [hji31] at H ⊢; exact H)
                  (try rw [hji31] at A7)
                  (try rw [hji31] at A9)
                  (try rw [hji31] at A10)
                  (try rw [hji31] at A12)
                  (try rw [hji31] at A13)
                  (try rw [hji31] at A15)
                  (try rw [hji31] at A16)
                  (try rw [hji31] at A18)
                  (try rw [hji31] at A19)
                  (try rw [hji31] at A21)
                  (try rw [hji31] at A22)
                  (try rw [hji31] at A24)
                  (try rw [hji31] at A25)
                  (try rw [hji31] at A27)
                  (try rw [hji31] at A28)
                  (try rw [hji31] at A30)
                  by_cases c32 : 0 ≤ (ji31)
                  · rw [if_pos c32] at H
                    have c32b0 := eq_true c32
                    have c32b1 : decide (0 ≤ (ji31)) = true := decide_eq_true c32
                    clear c32
                    obtain ⟨ji33, hji33⟩ : ∃ j_ : Int, (shl .u32 a0 (ji31)) = j_ := ⟨_, rfl⟩
                    replace H : (some (t129 == (ji33))) = some r := by first | (rw [hji33] at H; exact H) | (simp only [hji33] at H ⊢; exact H)
                    (try rw [hji33] at A7)
                    (try rw [hji33] at A9)
                    (try rw [hji33] at A10)
                    (try rw [hji33] at A12)
                    (try rw [hji33] at A13)
                    (try rw [hji33] at A15)
                    (try rw [hji33] at A16)
                    (try rw [hji33] at A18)
                    (try rw [hji33] at A19)
                    (try rw [hji33] at A21)
                    (try rw [hji33] at A22)
                    (try rw [hji33] at A24)
                    (try rw [hji33] at A25)
                    (try rw [hji33] at A27)
                    (try rw [hji33] at A28)
                    (try rw [hji33] at A30)
                    have hji33_ : (IntKind.u32.wrap (a0 * 2 ^ min (ji31).toNat 32)) = ji33 := hji33
                    have hji33z : (ji31) ≤ 32 → (IntKind.u32.wrap (a0 * 2 ^ (ji31).toNat)) = ji33 := shl_small hji33
                    clear HRT
                    obtain rfl := Option.some.inj H
                    go_enter Try.func12, Try.ntmps12
                    go_wp2_with (first | ((with_reducible refine gate_callee (f := 20) rfl ?_); refine goesL_ (some 14) rfl rfl Try.func20 (by kernel_rfl) rfl #[] rfl (by (try simp only [List.map_toArray, List.map_cons, List.map_nil]); first | done | rfl | (simp only [List.length_drop, List.length_take]; rfl)) ?_; (with_reducible refine (corrallaw1_first.calls k  true _ A7.out).mono ?_); rintro e w34 ⟨rfl, hb⟩; refine ⟨_, rfl, ?_⟩; have n0_ := Aside0.mk (below_step (by repeat (first | (with_reducible first | exact HB.out | apply below_alloc | apply pw_below_drewN | apply below_drew1) | exact HB.out)) hb); clear HB; have HB := n0_; clear n0_; (try clear hb); (try clear hb2); (try clear hk); (try clear hi)) | (go_at_call 30; (with_reducible refine (word_Sign.calls a0 a3 t115 _ A9.out).mono ?_); rintro e w' ⟨rfl, ⟨nd, rfl⟩⟩) | (go_at_call 37; (with_reducible refine (corralref1_Sign.calls a0 a3 t116 _ A10.out).mono ?_); rintro e w' ⟨rfl, ⟨nd, rfl⟩⟩) | (go_at_call 23; (with_reducible refine (word_Bits.calls a0 a2 a3 t117 _ A12.out).mono ?_); rintro e w35 ⟨rfl, hb⟩; have n0_ := Aside0.mk (below_step (by repeat (first | (with_reducible first | exact HB.out | apply below_alloc | apply pw_below_drewN | apply below_drew1) | exact HB.out)) hb); clear HB; have HB := n0_; clear n0_; (try clear hb); (try clear hb2); (try clear hk); (try clear hi)) | (go_at_call 38; (with_reducible refine (corralref1_Bits.calls k a0 a2 a3 t118 _ A13.out).mono ?_); rintro e w' ⟨rfl, ⟨nd, rfl⟩⟩) | (go_at_call 29; (with_reducible refine (word_High.calls a0 a1 a4 a5 t119 _ A15.out).mono ?_); rintro e w' ⟨rfl, ⟨nd, rfl⟩⟩) | (go_at_call 39; (with_reducible refine (corralref1_High.calls k a0 a1 a4 a5 t120 _ A16.out).mono ?_); rintro e w' ⟨rfl, ⟨nd, rfl⟩⟩) | (go_at_call 26; (with_reducible refine (word_Div.calls k a0 a1 a4 t121 _ A18.out).mono ?_); rintro e w' ⟨rfl, ⟨nd, rfl⟩⟩) | (go_at_call 40; (with_reducible refine (corralref1_Div.calls a0 a1 a4 t122 _ A19.out).mono ?_); rintro e w' ⟨rfl, ⟨nd, rfl⟩⟩) | (go_at_call 27; (with_reducible refine (word_Rem.calls k a0 a1 a4 t123 _ A21.out).mono ?_); rintro e w' ⟨rfl, ⟨nd, rfl⟩⟩) | (go_at_call 41; (with_reducible refine (corralref1_Rem.calls a0 a1 a4 t124 _ A22.out).mono ?_); rintro e w' ⟨rfl, ⟨nd, rfl⟩⟩) | (go_at_call 28; (with_reducible refine (word_Less.calls a0 a1 a4 t125 _ A24.out).mono ?_); rintro e w' ⟨rfl, ⟨nd, rfl⟩⟩) | (go_at_call 42; (with_reducible refine (corralref1_Less.calls a0 a1 a4 t126 _ A25.out).mono ?_); rintro e w' ⟨rfl, ⟨nd, rfl⟩⟩) | (go_at_call 25; (with_reducible refine (word_Right.calls a0 a3 a4 t127 _ A27.out).mono ?_); rintro e w' ⟨rfl, ⟨nd, rfl⟩⟩) | (go_at_call 43; (with_reducible refine (corralref1_Right.calls a0 a3 a4 t128 _ A28.out).mono ?_); rintro e w' ⟨rfl, ⟨nd, rfl⟩⟩) | (go_at_call 24; (with_reducible refine (word_Left.calls a0 a3 t129 _ A30.out).mono ?_); rintro e w' ⟨rfl, ⟨nd, rfl⟩⟩))
                    go_ret
                    exact ⟨by first | rfl | (simp [errW_none, errW_some] <;> rfl) | (simp only [← hji31, ← hji33]; first | rfl | (simp [errW_none, errW_some] <;> rfl)) | (simp [*, errW_none, errW_some] <;> rfl), by repeat (first | (with_reducible first | exact HB.out | apply below_alloc | apply pw_below_drewN | apply below_drew1) | exact HB.out)⟩
                  · rw [if_neg c32] at H
                    exact absurd H (by simp)
                · rw [if_neg c29] at H
                  have c29b0 : (t127 == t128) = false := beq_eq_false_iff_ne.mpr c29
                  have c29b1 : (t127 != t128) = true := bne_iff_ne.mpr c29
                  exact absurd (Option.some.inj H) (by rw [HRT.out]; decide)
              · rw [if_neg c26] at H
                have c26b0 : (t125 == t126) = false := by simpa using c26
                (try (have c26b1 : decide (t125 = t126) = false := by simpa using c26))
                (try (have c26b2 : (t125 == t126) = false := by simpa using c26))
                (try (have c26b3 : ¬ (t125 = t126) := by simpa using c26))
                clear c26
                exact absurd (Option.some.inj H) (by rw [HRT.out]; decide)
            · rw [if_neg c23] at H
              have c23b0 : (t123 == t124) = false := beq_eq_false_iff_ne.mpr c23
              have c23b1 : (t123 != t124) = true := bne_iff_ne.mpr c23
              exact absurd (Option.some.inj H) (by rw [HRT.out]; decide)
          · rw [if_neg c20] at H
            have c20b0 : (t121 == t122) = false := beq_eq_false_iff_ne.mpr c20
            have c20b1 : (t121 != t122) = true := bne_iff_ne.mpr c20
            exact absurd (Option.some.inj H) (by rw [HRT.out]; decide)
        · rw [if_neg c17] at H
          have c17b0 : (t119 == t120) = false := beq_eq_false_iff_ne.mpr c17
          have c17b1 : (t119 != t120) = true := bne_iff_ne.mpr c17
          exact absurd (Option.some.inj H) (by rw [HRT.out]; decide)
      · rw [if_neg c14] at H
        have c14b0 : (t117 == t118) = false := beq_eq_false_iff_ne.mpr c14
        have c14b1 : (t117 != t118) = true := bne_iff_ne.mpr c14
        exact absurd (Option.some.inj H) (by rw [HRT.out]; decide)
    · rw [if_neg c11] at H
      have c11b0 : (t115 == t116) = false := beq_eq_false_iff_ne.mpr c11
      have c11b1 : (t115 != t116) = true := bne_iff_ne.mpr c11
      exact absurd (Option.some.inj H) (by rw [HRT.out]; decide)
  · replace c8 := Bool.eq_false_iff.mpr c8
    subst c8
    have H1 : (some false) = some r := by rw [if_neg (show ¬ (false = true) by decide)] at H; exact H
    clear H
    have H := H1
    clear H1
    exact absurd (Option.some.inj H) (by rw [HRT.out]; decide)

/-- THE ONE PURE STATEMENT of corrallaw1_WordSays: yours. -/
def corrallaw1_WordSays.Pure : Prop := ∀ (a0 : Int) (a1 : Int) (a2 : Int) (a3 : Int) (a4 : Bool) (a5 : Bool), (Lit.int .u32 a0).wf = true → (Lit.int .u32 a1).wf = true → (Lit.int .i64 a2).wf = true → (Lit.int .i64 a3).wf = true → ∃ k, corrallaw1_WordSays.f k a0 a1 a2 a3 a4 a5 = some true
theorem corrallaw1_WordSays.walk (P : corrallaw1_WordSays.Pure) (a0 : Int) (a1 : Int) (a2 : Int) (a3 : Int) (a4 : Bool) (a5 : Bool) (w : World) (w0 : (Lit.int .u32 a0).wf = true) (w1 : (Lit.int .u32 a1).wf = true) (w2 : (Lit.int .i64 a2).wf = true) (w3 : (Lit.int .i64 a3).wf = true) :
    Calls Try.prog 12 #[.int .u32 a0, .int .u32 a1, .int .i64 a2, .int .i64 a3, .bool a4, .bool a5] w fun e w' => e = .returned (.bool true) ∧ Below w.heap.size w w' := by
  obtain ⟨k, h⟩ := P a0 a1 a2 a3 a4 a5 w0 w1 w2 w3
  refine (corrallaw1_WordSays.calls k a0 a1 a2 a3 a4 a5 true w h rfl).mono ?_
  rintro e w' ⟨rfl, hd⟩
  exact ⟨rfl, hd⟩

end Go.Proofs.Ythpaieglgjjbiaa.QWordSays
