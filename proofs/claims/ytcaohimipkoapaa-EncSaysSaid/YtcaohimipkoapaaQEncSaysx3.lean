-- Laid by a program of this session (wip/tpl/mine.sh), out of the program's form in Lean: Lean checks it.
import Derived.Test.YtcaohimipkoapaaQEncSaysx0
import Derived.Test.YtcaohimipkoapaaQEncSaysx2
namespace Go.Proofs.Ytcaohimipkoapaa.QEncSays
open Go.RowKit Go.Proofs.YtcaohimipkoapaaW.PrintWords Go.Proofs.YtcaohimipkoapaaW.PrintLast Go.Proofs.YtcaohimipkoapaaW.PrintMore
attribute [local go_sem] max2_int min2_int max_two min_two max_three min_three max_four min_four   -- for this text's walks alone
set_option linter.unusedVariables false
set_option linter.unusedSimpArgs false

/-! ### corralref1_Bits: function 47 -/
def corralref1_Bits.j0 : Nat → Int → Int → Int → Bool → Option (Int)
  | 0, _, _, _, _ => none
  | k + 1, x0, x1, x2, x16 => if x16 = true then (some 0) else (if 0 ≤ (IntKind.u64.wrap (x1)) then (if x2 ≥ 32 then (some (shr .u32 x0 (IntKind.u64.wrap (x1)))) else (if 0 ≤ (IntKind.u64.wrap (x2)) then (some (Go.bits .and .u32 (shr .u32 x0 (IntKind.u64.wrap (x1))) (((shl .u32 1 (IntKind.u64.wrap (x2))) - 1) % 4294967296))) else (none))) else (none))
def corralref1_Bits.f (k : Nat) (a0 : Int) (a1 : Int) (a2 : Int) : Option (Int) := if a1 < 0 then (corralref1_Bits.j0 k a0 a1 a2 true) else (if a1 > 31 then (corralref1_Bits.j0 k a0 a1 a2 true) else (corralref1_Bits.j0 k a0 a1 a2 (decide (a2 < 1))))
theorem corralref1_Bits.mono_l : ∀ k, (∀ y0 y1 y2 y3, LeO (corralref1_Bits.j0 k y0 y1 y2 y3) (corralref1_Bits.j0 (k + 1) y0 y1 y2 y3))
  | 0 => fun _ _ _ _ r h => by simp [corralref1_Bits.j0] at h
  | k + 1 => by
    have ih0 := corralref1_Bits.mono_l k
    · intro y0 y1 y2 y3
      unfold corralref1_Bits.j0
      repeat' first
      | (with_reducible exact ih0 _ _ _ _)
      | (with_reducible exact LeO.refl _)
      | (with_reducible exact LeO.none _)
      | (with_reducible refine LeO.ite ?_ ?_)
      | (with_reducible refine LeO.bind ?_ (fun _ => ?_))
      | exact ih0 _ _ _ _
      | exact LeO.none _
      | refine LeO.ite ?_ ?_
      | refine LeO.bind ?_ (fun _ => ?_)
theorem corralref1_Bits.mono : ∀ a0 a1 a2 k, LeO (corralref1_Bits.f k a0 a1 a2) (corralref1_Bits.f (k + 1) a0 a1 a2) := by
  intro a0 a1 a2 k
  have ih0 := corralref1_Bits.mono_l k
  unfold corralref1_Bits.f
  repeat' first
      | (with_reducible exact ih0 _ _ _ _)
      | (with_reducible exact LeO.refl _)
      | (with_reducible exact LeO.none _)
      | (with_reducible refine LeO.ite ?_ ?_)
      | (with_reducible refine LeO.bind ?_ (fun _ => ?_))
      | exact ih0 _ _ _ _
      | exact LeO.none _
      | refine LeO.ite ?_ ?_
      | refine LeO.bind ?_ (fun _ => ?_)
set_option maxHeartbeats 8000000 in
set_option maxRecDepth 100000 in
theorem corralref1_Bits.calls (k : Nat) (a0 : Int) (a1 : Int) (a2 : Int) (r : Int) (w : World) (h : corralref1_Bits.f k a0 a1 a2 = some r) :
    Calls Try.prog 47 #[.int .u32 a0, .int .i64 a1, .int .i64 a2] w fun e w' => e = .returned (.int .u32 r) ∧ Drawn0 w w' := by
  have H : (if a1 < 0 then (corralref1_Bits.j0 k a0 a1 a2 true) else (if a1 > 31 then (corralref1_Bits.j0 k a0 a1 a2 true) else (corralref1_Bits.j0 k a0 a1 a2 (decide (a2 < 1))))) = some r := h
  clear h
  have HC4 := Aside0.mk H
  clear H
  go_enter Try.func47, Try.ntmps47
  go_upto_region 1 with (fail)
  go_cut [16] (fun v16 wc => ∃ (kq : Nat) (x16_3 : Bool), v16 = .bool x16_3 ∧ Aside0 (corralref1_Bits.j0 kq a0 a1 a2 x16_3 = some r) ∧ Aside0 (kq ≤ k) ∧ Drawn0 w wc)
  case first =>
    have H := HC4.out
    clear HC4
    by_cases c5 : a1 < 0
    · rw [if_pos c5] at H
      have c5b0 : decide (a1 < 0) = true := decide_eq_true c5
      clear c5
      (first | rw [c5b0] | (simp only [i64_w, i32_w]; rw [c5b0]) | skip)
      have H' := Aside0.mk H
      clear H
      go_wp2
      go_meet
      case rel => exact ⟨_, (true), (by first | rfl | (simp; done) | (simp [*]; done)), H', ⟨by first | omega | exact Nat.le_refl _⟩, by repeat (first | exact Drawn0.refl _ | apply Drawn0.step)⟩
    · rw [if_neg c5] at H
      have c5b0 : decide (a1 < 0) = false := decide_eq_false c5
      clear c5
      (first | rw [c5b0] | (simp only [i64_w, i32_w]; rw [c5b0]) | skip)
      by_cases c6 : a1 > 31
      · rw [if_pos c6] at H
        have c6b0 : decide (31 < a1) = true := decide_eq_true c6
        clear c6
        have H' := Aside0.mk H
        clear H
        go_wp2
        go_meet
        case rel => exact ⟨_, (true), (by first | rfl | (simp; done) | (simp [*]; done)), H', ⟨by first | omega | exact Nat.le_refl _⟩, by repeat (first | exact Drawn0.refl _ | apply Drawn0.step)⟩
      · rw [if_neg c6] at H
        have c6b0 : decide (31 < a1) = false := decide_eq_false c6
        clear c6
        have H' := Aside0.mk H
        clear H
        go_wp2
        go_meet
        case rel => exact ⟨_, (decide (a2 < 1)), (by first | rfl | (simp; done) | (simp [*]; done)), H', ⟨by first | omega | exact Nat.le_refl _⟩, by repeat (first | exact Drawn0.refl _ | apply Drawn0.step)⟩
  case rest =>
    clear HC4
    try clear p2
    try clear c4
    try clear c5
    try clear c5b0
    try clear c6
    try clear c6b0
    obtain ⟨kq, x16_3, rfl, HA, HJ3, ⟨mc3, rfl⟩⟩ := hcut
    cases kq with
    | zero => exact absurd HA.out (by simp [corralref1_Bits.j0])
    | succ kj3 =>
      have H := HA.out
      clear HA
      simp only [corralref1_Bits.j0] at H
      by_cases c7 : x16_3 = true
      · subst c7
        have H1 : (some 0) = some r := by rw [if_pos rfl] at H; exact H
        clear H
        have H := H1
        clear H1
        obtain rfl := Option.some.inj H
        go_wp2
        go_ret
        exact ⟨by first | rfl | (simp; done) | (simp [*]; done), by repeat (first | exact Drawn0.refl _ | apply Drawn0.step)⟩
      · replace c7 := Bool.eq_false_iff.mpr c7
        subst c7
        have H1 : (if 0 ≤ (IntKind.u64.wrap (a1)) then (if a2 ≥ 32 then (some (shr .u32 a0 (IntKind.u64.wrap (a1)))) else (if 0 ≤ (IntKind.u64.wrap (a2)) then (some (Go.bits .and .u32 (shr .u32 a0 (IntKind.u64.wrap (a1))) (((shl .u32 1 (IntKind.u64.wrap (a2))) - 1) % 4294967296))) else (none))) else (none)) = some r := by rw [if_neg (show ¬ (false = true) by decide)] at H; exact H
        clear H
        have H := H1
        clear H1
        obtain ⟨ji8, hji8⟩ : ∃ j_ : Int, (IntKind.u64.wrap (a1)) = j_ := ⟨_, rfl⟩
        replace H : (if 0 ≤ (ji8) then (if a2 ≥ 32 then (some (shr .u32 a0 (ji8))) else (if 0 ≤ (IntKind.u64.wrap (a2)) then (some (Go.bits .and .u32 (shr .u32 a0 (ji8)) (((shl .u32 1 (IntKind.u64.wrap (a2))) - 1) % 4294967296))) else (none))) else (none)) = some r := by first | (rw [hji8] at H; exact H) | (simp only [hji8] at H ⊢; exact H)
        by_cases c9 : 0 ≤ (ji8)
        · rw [if_pos c9] at H
          have c9b0 := eq_true c9
          have c9b1 : decide (0 ≤ (ji8)) = true := decide_eq_true c9
          clear c9
          obtain ⟨ji10, hji10⟩ : ∃ j_ : Int, (shr .u32 a0 (ji8)) = j_ := ⟨_, rfl⟩
          replace H : (if a2 ≥ 32 then (some ji10) else (if 0 ≤ (IntKind.u64.wrap (a2)) then (some (Go.bits .and .u32 (ji10) (((shl .u32 1 (IntKind.u64.wrap (a2))) - 1) % 4294967296))) else (none))) = some r := by first | (rw [hji10] at H; exact H) | (simp only [hji10] at H ⊢; exact H)
          have hji10_ : (a0 / 2 ^ min (ji8).toNat 32) = ji10 := hji10
          have hji10z : (ji8) ≤ 32 → (a0 / 2 ^ (ji8).toNat) = ji10 := shr_small hji10
          by_cases c11 : a2 ≥ 32
          · rw [if_pos c11] at H
            have c11b0 : decide (32 ≤ a2) = true := decide_eq_true c11
            clear c11
            obtain rfl := Option.some.inj H
            go_wp2
            go_ret
            exact ⟨by first | rfl | (simp; done) | (simp only [← hji8, ← hji10] <;> (first | rfl | simp)) | (simp [*]; done), by repeat (first | exact Drawn0.refl _ | apply Drawn0.step)⟩
          · rw [if_neg c11] at H
            have c11b0 : decide (32 ≤ a2) = false := decide_eq_false c11
            clear c11
            obtain ⟨ji12, hji12⟩ : ∃ j_ : Int, (IntKind.u64.wrap (a2)) = j_ := ⟨_, rfl⟩
            replace H : (if 0 ≤ (ji12) then (some (Go.bits .and .u32 (ji10) (((shl .u32 1 (ji12)) - 1) % 4294967296))) else (none)) = some r := by first | (rw [hji12] at H; exact H) | (simp only [hji12] at H ⊢; exact H)
            by_cases c13 : 0 ≤ (ji12)
            · rw [if_pos c13] at H
              have c13b0 := eq_true c13
              have c13b1 : decide (0 ≤ (ji12)) = true := decide_eq_true c13
              clear c13
              obtain ⟨ji14, hji14⟩ : ∃ j_ : Int, (shl .u32 1 (ji12)) = j_ := ⟨_, rfl⟩
              replace H : (some (Go.bits .and .u32 (ji10) (((ji14) - 1) % 4294967296))) = some r := by first | (rw [hji14] at H; exact H) | (simp only [hji14] at H ⊢; exact H)
              have hji14_ : (IntKind.u32.wrap (1 * 2 ^ min (ji12).toNat 32)) = ji14 := hji14
              have hji14z : (ji12) ≤ 32 → (IntKind.u32.wrap (1 * 2 ^ (ji12).toNat)) = ji14 := shl_small hji14
              have hji14u : (IntKind.u32.wrap (2 ^ min (ji12).toNat 32)) = ji14 := by have h_ := hji14_; rw [Int.one_mul] at h_; exact h_
              have hji14v : (ji12) ≤ 32 → (IntKind.u32.wrap (2 ^ (ji12).toNat)) = ji14 := fun hle_ => by have h_ := hji14z hle_; rw [Int.one_mul] at h_; exact h_
              obtain rfl := Option.some.inj H
              go_wp2
              go_ret
              exact ⟨by first | rfl | (simp; done) | (simp only [← hji8, ← hji10, ← hji12, ← hji14] <;> (first | rfl | simp)) | (simp [*]; done), by repeat (first | exact Drawn0.refl _ | apply Drawn0.step)⟩
            · rw [if_neg c13] at H
              exact absurd H (by simp)
        · rw [if_neg c9] at H
          exact absurd H (by simp)

/-! ### corralref1_Imm: function 19 -/
def corralref1_Imm.f (k : Nat) (a0 : Int) (a1 : Int) : Option (Int) := if a0 = 73 then ((corralref1_Bits.f k a1 20 12).bind fun t154 => ((corralref1_Sign.f t154 12).bind fun t155 => (some t155))) else (if a0 = 83 then ((corralref1_Bits.f k a1 25 7).bind fun t156 => ((corralref1_Bits.f k a1 7 5).bind fun t157 => ((corralref1_Sign.f (Go.bits .or .u32 ((t156 * 32) % 4294967296) t157) 12).bind fun t158 => (some t158)))) else (if a0 = 66 then ((corralref1_Bits.f k a1 31 1).bind fun t159 => ((corralref1_Bits.f k a1 7 1).bind fun t160 => ((corralref1_Bits.f k a1 25 6).bind fun t161 => ((corralref1_Bits.f k a1 8 4).bind fun t162 => ((corralref1_Sign.f (Go.bits .or .u32 (Go.bits .or .u32 (Go.bits .or .u32 ((t159 * 4096) % 4294967296) ((t160 * 2048) % 4294967296)) ((t161 * 32) % 4294967296)) ((t162 * 2) % 4294967296)) 13).bind fun t163 => (some t163)))))) else (if a0 = 85 then ((corralref1_Bits.f k a1 12 20).bind fun t164 => (some ((t164 * 4096) % 4294967296))) else (if a0 = 74 then ((corralref1_Bits.f k a1 31 1).bind fun t165 => ((corralref1_Bits.f k a1 12 8).bind fun t166 => ((corralref1_Bits.f k a1 20 1).bind fun t167 => ((corralref1_Bits.f k a1 21 10).bind fun t168 => ((corralref1_Sign.f (Go.bits .or .u32 (Go.bits .or .u32 (Go.bits .or .u32 ((t165 * 1048576) % 4294967296) ((t166 * 4096) % 4294967296)) ((t167 * 2048) % 4294967296)) ((t168 * 2) % 4294967296)) 21).bind fun t169 => (some t169)))))) else (some 0)))))
theorem corralref1_Imm.mono : ∀ a0 a1 k, LeO (corralref1_Imm.f k a0 a1) (corralref1_Imm.f (k + 1) a0 a1) := by
  intro a0 a1 k
  unfold corralref1_Imm.f
  repeat' first
      | (with_reducible exact corralref1_Bits.mono _ _ _ _)
      | (with_reducible exact LeO.refl _)
      | (with_reducible exact LeO.none _)
      | (with_reducible refine LeO.ite ?_ ?_)
      | (with_reducible refine LeO.bind ?_ (fun _ => ?_))
      | exact corralref1_Bits.mono _ _ _ _
      | exact LeO.none _
      | refine LeO.ite ?_ ?_
      | refine LeO.bind ?_ (fun _ => ?_)
set_option maxHeartbeats 8000000 in
set_option maxRecDepth 100000 in
theorem corralref1_Imm.calls (k : Nat) (a0 : Int) (a1 : Int) (r : Int) (w : World) (h : corralref1_Imm.f k a0 a1 = some r) :
    Calls Try.prog 19 #[.int .u8 a0, .int .u32 a1] w fun e w' => e = .returned (.int .u32 r) ∧ Drawn0 w w' := by
  have H : (if a0 = 73 then ((corralref1_Bits.f k a1 20 12).bind fun t154 => ((corralref1_Sign.f t154 12).bind fun t155 => (some t155))) else (if a0 = 83 then ((corralref1_Bits.f k a1 25 7).bind fun t156 => ((corralref1_Bits.f k a1 7 5).bind fun t157 => ((corralref1_Sign.f (Go.bits .or .u32 ((t156 * 32) % 4294967296) t157) 12).bind fun t158 => (some t158)))) else (if a0 = 66 then ((corralref1_Bits.f k a1 31 1).bind fun t159 => ((corralref1_Bits.f k a1 7 1).bind fun t160 => ((corralref1_Bits.f k a1 25 6).bind fun t161 => ((corralref1_Bits.f k a1 8 4).bind fun t162 => ((corralref1_Sign.f (Go.bits .or .u32 (Go.bits .or .u32 (Go.bits .or .u32 ((t159 * 4096) % 4294967296) ((t160 * 2048) % 4294967296)) ((t161 * 32) % 4294967296)) ((t162 * 2) % 4294967296)) 13).bind fun t163 => (some t163)))))) else (if a0 = 85 then ((corralref1_Bits.f k a1 12 20).bind fun t164 => (some ((t164 * 4096) % 4294967296))) else (if a0 = 74 then ((corralref1_Bits.f k a1 31 1).bind fun t165 => ((corralref1_Bits.f k a1 12 8).bind fun t166 => ((corralref1_Bits.f k a1 20 1).bind fun t167 => ((corralref1_Bits.f k a1 21 10).bind fun t168 => ((corralref1_Sign.f (Go.bits .or .u32 (Go.bits .or .u32 (Go.bits .or .u32 ((t165 * 1048576) % 4294967296) ((t166 * 4096) % 4294967296)) ((t167 * 2048) % 4294967296)) ((t168 * 2) % 4294967296)) 21).bind fun t169 => (some t169)))))) else (some 0)))))) = some r := h
  clear h
  by_cases c3 : a0 = 73
  · rw [if_pos c3] at H
    have c3b0 : (a0 == 73) = true := beq_iff_eq.mpr c3
    have c3b1 : (a0 != 73) = false := bne_eq_false_iff_eq.mpr c3
    clear c3
    replace H := Option.bind_eq_some_iff.mp H
    obtain ⟨t154, A40, H⟩ := H
    replace H : ((corralref1_Sign.f t154 12).bind fun t155 => (some t155)) = some r := H
    have A4 := Aside0.mk A40
    clear A40
    replace H := Option.bind_eq_some_iff.mp H
    obtain ⟨t155, A50, H⟩ := H
    replace H : (some t155) = some r := H
    have A5 := Aside0.mk A50
    clear A50
    obtain rfl := Option.some.inj H
    go_enter Try.func19, Try.ntmps19
    go_wp2_with (first | ((with_reducible refine gate_callee (f := 47) rfl ?_); refine goesL_ (some 9) rfl rfl Try.func47 (by kernel_rfl) rfl #[.int .u32 a1, .int .i64 20, .int .i64 12] rfl (by (try simp only [List.map_toArray, List.map_cons, List.map_nil]); first | done | rfl | (simp only [List.length_drop, List.length_take]; rfl)) ?_; (with_reducible refine (corralref1_Bits.calls k a1 20 12 t154 _ A4.out).mono ?_); rintro e w' ⟨rfl, ⟨nd, rfl⟩⟩; refine ⟨_, rfl, ?_⟩) | ((with_reducible refine gate_callee (f := 46) rfl ?_); refine goesL_ (some 10) rfl rfl Try.func46 (by kernel_rfl) rfl #[.int .u32 t154, .int .i64 12] rfl (by (try simp only [List.map_toArray, List.map_cons, List.map_nil]); first | done | rfl | (simp only [List.length_drop, List.length_take]; rfl)) ?_; (with_reducible refine (corralref1_Sign.calls t154 12 t155 _ A5.out).mono ?_); rintro e w' ⟨rfl, ⟨nd, rfl⟩⟩; refine ⟨_, rfl, ?_⟩))
    go_ret
    exact ⟨by first | rfl | (simp; done) | (simp [*]; done), by repeat (first | exact Drawn0.refl _ | apply Drawn0.step)⟩
  · rw [if_neg c3] at H
    have c3b0 : (a0 == 73) = false := beq_eq_false_iff_ne.mpr c3
    have c3b1 : (a0 != 73) = true := bne_iff_ne.mpr c3
    by_cases c6 : a0 = 83
    · rw [if_pos c6] at H
      have c6b0 : (a0 == 83) = true := beq_iff_eq.mpr c6
      have c6b1 : (a0 != 83) = false := bne_eq_false_iff_eq.mpr c6
      clear c6
      replace H := Option.bind_eq_some_iff.mp H
      obtain ⟨t156, A70, H⟩ := H
      replace H : ((corralref1_Bits.f k a1 7 5).bind fun t157 => ((corralref1_Sign.f (Go.bits .or .u32 ((t156 * 32) % 4294967296) t157) 12).bind fun t158 => (some t158))) = some r := H
      have A7 := Aside0.mk A70
      clear A70
      replace H := Option.bind_eq_some_iff.mp H
      obtain ⟨t157, A80, H⟩ := H
      replace H : ((corralref1_Sign.f (Go.bits .or .u32 ((t156 * 32) % 4294967296) t157) 12).bind fun t158 => (some t158)) = some r := H
      have A8 := Aside0.mk A80
      clear A80
      replace H := Option.bind_eq_some_iff.mp H
      obtain ⟨t158, A90, H⟩ := H
      replace H : (some t158) = some r := H
      have A9 := Aside0.mk A90
      clear A90
      obtain rfl := Option.some.inj H
      go_enter Try.func19, Try.ntmps19
      go_wp2_with (first | ((with_reducible refine gate_callee (f := 47) rfl ?_); refine goesL_ (some 14) rfl rfl Try.func47 (by kernel_rfl) rfl #[.int .u32 a1, .int .i64 25, .int .i64 7] rfl (by (try simp only [List.map_toArray, List.map_cons, List.map_nil]); first | done | rfl | (simp only [List.length_drop, List.length_take]; rfl)) ?_; (with_reducible refine (corralref1_Bits.calls k a1 25 7 t156 _ A7.out).mono ?_); rintro e w' ⟨rfl, ⟨nd, rfl⟩⟩; refine ⟨_, rfl, ?_⟩) | ((with_reducible refine gate_callee (f := 47) rfl ?_); refine goesL_ (some 17) rfl rfl Try.func47 (by kernel_rfl) rfl #[.int .u32 a1, .int .i64 7, .int .i64 5] rfl (by (try simp only [List.map_toArray, List.map_cons, List.map_nil]); first | done | rfl | (simp only [List.length_drop, List.length_take]; rfl)) ?_; (with_reducible refine (corralref1_Bits.calls k a1 7 5 t157 _ A8.out).mono ?_); rintro e w' ⟨rfl, ⟨nd, rfl⟩⟩; refine ⟨_, rfl, ?_⟩) | ((with_reducible refine gate_callee (f := 46) rfl ?_); refine goesL_ (some 19) rfl rfl Try.func46 (by kernel_rfl) rfl #[.int .u32 (Go.bits .or .u32 ((t156 * 32) % 4294967296) t157), .int .i64 12] rfl (by (try simp only [List.map_toArray, List.map_cons, List.map_nil]); first | done | rfl | (simp only [List.length_drop, List.length_take]; rfl)) ?_; (with_reducible refine (corralref1_Sign.calls (Go.bits .or .u32 ((t156 * 32) % 4294967296) t157) 12 t158 _ A9.out).mono ?_); rintro e w' ⟨rfl, ⟨nd, rfl⟩⟩; refine ⟨_, rfl, ?_⟩))
      go_ret
      exact ⟨by first | rfl | (simp; done) | (simp [*]; done), by repeat (first | exact Drawn0.refl _ | apply Drawn0.step)⟩
    · rw [if_neg c6] at H
      have c6b0 : (a0 == 83) = false := beq_eq_false_iff_ne.mpr c6
      have c6b1 : (a0 != 83) = true := bne_iff_ne.mpr c6
      by_cases c10 : a0 = 66
      · rw [if_pos c10] at H
        have c10b0 : (a0 == 66) = true := beq_iff_eq.mpr c10
        have c10b1 : (a0 != 66) = false := bne_eq_false_iff_eq.mpr c10
        clear c10
        replace H := Option.bind_eq_some_iff.mp H
        obtain ⟨t159, A110, H⟩ := H
        replace H : ((corralref1_Bits.f k a1 7 1).bind fun t160 => ((corralref1_Bits.f k a1 25 6).bind fun t161 => ((corralref1_Bits.f k a1 8 4).bind fun t162 => ((corralref1_Sign.f (Go.bits .or .u32 (Go.bits .or .u32 (Go.bits .or .u32 ((t159 * 4096) % 4294967296) ((t160 * 2048) % 4294967296)) ((t161 * 32) % 4294967296)) ((t162 * 2) % 4294967296)) 13).bind fun t163 => (some t163))))) = some r := H
        have A11 := Aside0.mk A110
        clear A110
        replace H := Option.bind_eq_some_iff.mp H
        obtain ⟨t160, A120, H⟩ := H
        replace H : ((corralref1_Bits.f k a1 25 6).bind fun t161 => ((corralref1_Bits.f k a1 8 4).bind fun t162 => ((corralref1_Sign.f (Go.bits .or .u32 (Go.bits .or .u32 (Go.bits .or .u32 ((t159 * 4096) % 4294967296) ((t160 * 2048) % 4294967296)) ((t161 * 32) % 4294967296)) ((t162 * 2) % 4294967296)) 13).bind fun t163 => (some t163)))) = some r := H
        have A12 := Aside0.mk A120
        clear A120
        replace H := Option.bind_eq_some_iff.mp H
        obtain ⟨t161, A130, H⟩ := H
        replace H : ((corralref1_Bits.f k a1 8 4).bind fun t162 => ((corralref1_Sign.f (Go.bits .or .u32 (Go.bits .or .u32 (Go.bits .or .u32 ((t159 * 4096) % 4294967296) ((t160 * 2048) % 4294967296)) ((t161 * 32) % 4294967296)) ((t162 * 2) % 4294967296)) 13).bind fun t163 => (some t163))) = some r := H
        have A13 := Aside0.mk A130
        clear A130
        replace H := Option.bind_eq_some_iff.mp H
        obtain ⟨t162, A140, H⟩ := H
        replace H : ((corralref1_Sign.f (Go.bits .or .u32 (Go.bits .or .u32 (Go.bits .or .u32 ((t159 * 4096) % 4294967296) ((t160 * 2048) % 4294967296)) ((t161 * 32) % 4294967296)) ((t162 * 2) % 4294967296)) 13).bind fun t163 => (some t163)) = some r := H
        have A14 := Aside0.mk A140
        clear A140
        replace H := Option.bind_eq_some_iff.mp H
        obtain ⟨t163, A150, H⟩ := H
        replace H : (some t163) = some r := H
        have A15 := Aside0.mk A150
        clear A150
        obtain rfl := Option.some.inj H
        go_enter Try.func19, Try.ntmps19
        go_wp2_with (first | ((with_reducible refine gate_callee (f := 47) rfl ?_); refine goesL_ (some 23) rfl rfl Try.func47 (by kernel_rfl) rfl #[.int .u32 a1, .int .i64 31, .int .i64 1] rfl (by (try simp only [List.map_toArray, List.map_cons, List.map_nil]); first | done | rfl | (simp only [List.length_drop, List.length_take]; rfl)) ?_; (with_reducible refine (corralref1_Bits.calls k a1 31 1 t159 _ A11.out).mono ?_); rintro e w' ⟨rfl, ⟨nd, rfl⟩⟩; refine ⟨_, rfl, ?_⟩) | ((with_reducible refine gate_callee (f := 47) rfl ?_); refine goesL_ (some 26) rfl rfl Try.func47 (by kernel_rfl) rfl #[.int .u32 a1, .int .i64 7, .int .i64 1] rfl (by (try simp only [List.map_toArray, List.map_cons, List.map_nil]); first | done | rfl | (simp only [List.length_drop, List.length_take]; rfl)) ?_; (with_reducible refine (corralref1_Bits.calls k a1 7 1 t160 _ A12.out).mono ?_); rintro e w' ⟨rfl, ⟨nd, rfl⟩⟩; refine ⟨_, rfl, ?_⟩) | ((with_reducible refine gate_callee (f := 47) rfl ?_); refine goesL_ (some 30) rfl rfl Try.func47 (by kernel_rfl) rfl #[.int .u32 a1, .int .i64 25, .int .i64 6] rfl (by (try simp only [List.map_toArray, List.map_cons, List.map_nil]); first | done | rfl | (simp only [List.length_drop, List.length_take]; rfl)) ?_; (with_reducible refine (corralref1_Bits.calls k a1 25 6 t161 _ A13.out).mono ?_); rintro e w' ⟨rfl, ⟨nd, rfl⟩⟩; refine ⟨_, rfl, ?_⟩) | ((with_reducible refine gate_callee (f := 47) rfl ?_); refine goesL_ (some 34) rfl rfl Try.func47 (by kernel_rfl) rfl #[.int .u32 a1, .int .i64 8, .int .i64 4] rfl (by (try simp only [List.map_toArray, List.map_cons, List.map_nil]); first | done | rfl | (simp only [List.length_drop, List.length_take]; rfl)) ?_; (with_reducible refine (corralref1_Bits.calls k a1 8 4 t162 _ A14.out).mono ?_); rintro e w' ⟨rfl, ⟨nd, rfl⟩⟩; refine ⟨_, rfl, ?_⟩) | ((with_reducible refine gate_callee (f := 46) rfl ?_); refine goesL_ (some 37) rfl rfl Try.func46 (by kernel_rfl) rfl #[.int .u32 (Go.bits .or .u32 (Go.bits .or .u32 (Go.bits .or .u32 ((t159 * 4096) % 4294967296) ((t160 * 2048) % 4294967296)) ((t161 * 32) % 4294967296)) ((t162 * 2) % 4294967296)), .int .i64 13] rfl (by (try simp only [List.map_toArray, List.map_cons, List.map_nil]); first | done | rfl | (simp only [List.length_drop, List.length_take]; rfl)) ?_; (with_reducible refine (corralref1_Sign.calls (Go.bits .or .u32 (Go.bits .or .u32 (Go.bits .or .u32 ((t159 * 4096) % 4294967296) ((t160 * 2048) % 4294967296)) ((t161 * 32) % 4294967296)) ((t162 * 2) % 4294967296)) 13 t163 _ A15.out).mono ?_); rintro e w' ⟨rfl, ⟨nd, rfl⟩⟩; refine ⟨_, rfl, ?_⟩))
        go_ret
        exact ⟨by first | rfl | (simp; done) | (simp [*]; done), by repeat (first | exact Drawn0.refl _ | apply Drawn0.step)⟩
      · rw [if_neg c10] at H
        have c10b0 : (a0 == 66) = false := beq_eq_false_iff_ne.mpr c10
        have c10b1 : (a0 != 66) = true := bne_iff_ne.mpr c10
        by_cases c16 : a0 = 85
        · rw [if_pos c16] at H
          have c16b0 : (a0 == 85) = true := beq_iff_eq.mpr c16
          have c16b1 : (a0 != 85) = false := bne_eq_false_iff_eq.mpr c16
          clear c16
          replace H := Option.bind_eq_some_iff.mp H
          obtain ⟨t164, A170, H⟩ := H
          replace H : (some ((t164 * 4096) % 4294967296)) = some r := H
          have A17 := Aside0.mk A170
          clear A170
          obtain rfl := Option.some.inj H
          go_enter Try.func19, Try.ntmps19
          go_wp2_with (first | ((with_reducible refine gate_callee (f := 47) rfl ?_); refine goesL_ (some 41) rfl rfl Try.func47 (by kernel_rfl) rfl #[.int .u32 a1, .int .i64 12, .int .i64 20] rfl (by (try simp only [List.map_toArray, List.map_cons, List.map_nil]); first | done | rfl | (simp only [List.length_drop, List.length_take]; rfl)) ?_; (with_reducible refine (corralref1_Bits.calls k a1 12 20 t164 _ A17.out).mono ?_); rintro e w' ⟨rfl, ⟨nd, rfl⟩⟩; refine ⟨_, rfl, ?_⟩))
          go_ret
          exact ⟨by first | rfl | (simp; done) | (simp [*]; done), by repeat (first | exact Drawn0.refl _ | apply Drawn0.step)⟩
        · rw [if_neg c16] at H
          have c16b0 : (a0 == 85) = false := beq_eq_false_iff_ne.mpr c16
          have c16b1 : (a0 != 85) = true := bne_iff_ne.mpr c16
          by_cases c18 : a0 = 74
          · rw [if_pos c18] at H
            have c18b0 : (a0 == 74) = true := beq_iff_eq.mpr c18
            have c18b1 : (a0 != 74) = false := bne_eq_false_iff_eq.mpr c18
            clear c18
            replace H := Option.bind_eq_some_iff.mp H
            obtain ⟨t165, A190, H⟩ := H
            replace H : ((corralref1_Bits.f k a1 12 8).bind fun t166 => ((corralref1_Bits.f k a1 20 1).bind fun t167 => ((corralref1_Bits.f k a1 21 10).bind fun t168 => ((corralref1_Sign.f (Go.bits .or .u32 (Go.bits .or .u32 (Go.bits .or .u32 ((t165 * 1048576) % 4294967296) ((t166 * 4096) % 4294967296)) ((t167 * 2048) % 4294967296)) ((t168 * 2) % 4294967296)) 21).bind fun t169 => (some t169))))) = some r := H
            have A19 := Aside0.mk A190
            clear A190
            replace H := Option.bind_eq_some_iff.mp H
            obtain ⟨t166, A200, H⟩ := H
            replace H : ((corralref1_Bits.f k a1 20 1).bind fun t167 => ((corralref1_Bits.f k a1 21 10).bind fun t168 => ((corralref1_Sign.f (Go.bits .or .u32 (Go.bits .or .u32 (Go.bits .or .u32 ((t165 * 1048576) % 4294967296) ((t166 * 4096) % 4294967296)) ((t167 * 2048) % 4294967296)) ((t168 * 2) % 4294967296)) 21).bind fun t169 => (some t169)))) = some r := H
            have A20 := Aside0.mk A200
            clear A200
            replace H := Option.bind_eq_some_iff.mp H
            obtain ⟨t167, A210, H⟩ := H
            replace H : ((corralref1_Bits.f k a1 21 10).bind fun t168 => ((corralref1_Sign.f (Go.bits .or .u32 (Go.bits .or .u32 (Go.bits .or .u32 ((t165 * 1048576) % 4294967296) ((t166 * 4096) % 4294967296)) ((t167 * 2048) % 4294967296)) ((t168 * 2) % 4294967296)) 21).bind fun t169 => (some t169))) = some r := H
            have A21 := Aside0.mk A210
            clear A210
            replace H := Option.bind_eq_some_iff.mp H
            obtain ⟨t168, A220, H⟩ := H
            replace H : ((corralref1_Sign.f (Go.bits .or .u32 (Go.bits .or .u32 (Go.bits .or .u32 ((t165 * 1048576) % 4294967296) ((t166 * 4096) % 4294967296)) ((t167 * 2048) % 4294967296)) ((t168 * 2) % 4294967296)) 21).bind fun t169 => (some t169)) = some r := H
            have A22 := Aside0.mk A220
            clear A220
            replace H := Option.bind_eq_some_iff.mp H
            obtain ⟨t169, A230, H⟩ := H
            replace H : (some t169) = some r := H
            have A23 := Aside0.mk A230
            clear A230
            obtain rfl := Option.some.inj H
            go_enter Try.func19, Try.ntmps19
            go_wp2_with (first | ((with_reducible refine gate_callee (f := 47) rfl ?_); refine goesL_ (some 46) rfl rfl Try.func47 (by kernel_rfl) rfl #[.int .u32 a1, .int .i64 31, .int .i64 1] rfl (by (try simp only [List.map_toArray, List.map_cons, List.map_nil]); first | done | rfl | (simp only [List.length_drop, List.length_take]; rfl)) ?_; (with_reducible refine (corralref1_Bits.calls k a1 31 1 t165 _ A19.out).mono ?_); rintro e w' ⟨rfl, ⟨nd, rfl⟩⟩; refine ⟨_, rfl, ?_⟩) | ((with_reducible refine gate_callee (f := 47) rfl ?_); refine goesL_ (some 49) rfl rfl Try.func47 (by kernel_rfl) rfl #[.int .u32 a1, .int .i64 12, .int .i64 8] rfl (by (try simp only [List.map_toArray, List.map_cons, List.map_nil]); first | done | rfl | (simp only [List.length_drop, List.length_take]; rfl)) ?_; (with_reducible refine (corralref1_Bits.calls k a1 12 8 t166 _ A20.out).mono ?_); rintro e w' ⟨rfl, ⟨nd, rfl⟩⟩; refine ⟨_, rfl, ?_⟩) | ((with_reducible refine gate_callee (f := 47) rfl ?_); refine goesL_ (some 53) rfl rfl Try.func47 (by kernel_rfl) rfl #[.int .u32 a1, .int .i64 20, .int .i64 1] rfl (by (try simp only [List.map_toArray, List.map_cons, List.map_nil]); first | done | rfl | (simp only [List.length_drop, List.length_take]; rfl)) ?_; (with_reducible refine (corralref1_Bits.calls k a1 20 1 t167 _ A21.out).mono ?_); rintro e w' ⟨rfl, ⟨nd, rfl⟩⟩; refine ⟨_, rfl, ?_⟩) | ((with_reducible refine gate_callee (f := 47) rfl ?_); refine goesL_ (some 57) rfl rfl Try.func47 (by kernel_rfl) rfl #[.int .u32 a1, .int .i64 21, .int .i64 10] rfl (by (try simp only [List.map_toArray, List.map_cons, List.map_nil]); first | done | rfl | (simp only [List.length_drop, List.length_take]; rfl)) ?_; (with_reducible refine (corralref1_Bits.calls k a1 21 10 t168 _ A22.out).mono ?_); rintro e w' ⟨rfl, ⟨nd, rfl⟩⟩; refine ⟨_, rfl, ?_⟩) | ((with_reducible refine gate_callee (f := 46) rfl ?_); refine goesL_ (some 60) rfl rfl Try.func46 (by kernel_rfl) rfl #[.int .u32 (Go.bits .or .u32 (Go.bits .or .u32 (Go.bits .or .u32 ((t165 * 1048576) % 4294967296) ((t166 * 4096) % 4294967296)) ((t167 * 2048) % 4294967296)) ((t168 * 2) % 4294967296)), .int .i64 21] rfl (by (try simp only [List.map_toArray, List.map_cons, List.map_nil]); first | done | rfl | (simp only [List.length_drop, List.length_take]; rfl)) ?_; (with_reducible refine (corralref1_Sign.calls (Go.bits .or .u32 (Go.bits .or .u32 (Go.bits .or .u32 ((t165 * 1048576) % 4294967296) ((t166 * 4096) % 4294967296)) ((t167 * 2048) % 4294967296)) ((t168 * 2) % 4294967296)) 21 t169 _ A23.out).mono ?_); rintro e w' ⟨rfl, ⟨nd, rfl⟩⟩; refine ⟨_, rfl, ?_⟩))
            go_ret
            exact ⟨by first | rfl | (simp; done) | (simp [*]; done), by repeat (first | exact Drawn0.refl _ | apply Drawn0.step)⟩
          · rw [if_neg c18] at H
            have c18b0 : (a0 == 74) = false := beq_eq_false_iff_ne.mpr c18
            have c18b1 : (a0 != 74) = true := bne_iff_ne.mpr c18
            obtain rfl := Option.some.inj H
            go_enter Try.func19, Try.ntmps19
            go_wp2
            go_ret
            exact ⟨by first | rfl | (simp; done) | (simp [*]; done), by repeat (first | exact Drawn0.refl _ | apply Drawn0.step)⟩

/-! ### corralref1_Place: function 45 -/
def corralref1_Place.f (k : Nat) (a0 : Int) (a1 : Int) (a2 : Int) : Option (Int) := if a1 < 0 then (some 0) else (if a1 > 31 then (some 0) else (if a2 < 1 then (some 0) else ((corralref1_Bits.f k a0 0 a2).bind fun t170 => (if 0 ≤ (IntKind.u64.wrap (a1)) then (some (shl .u32 t170 (IntKind.u64.wrap (a1)))) else (none)))))
theorem corralref1_Place.mono : ∀ a0 a1 a2 k, LeO (corralref1_Place.f k a0 a1 a2) (corralref1_Place.f (k + 1) a0 a1 a2) := by
  intro a0 a1 a2 k
  unfold corralref1_Place.f
  repeat' first
      | (with_reducible exact corralref1_Bits.mono _ _ _ _)
      | (with_reducible exact LeO.refl _)
      | (with_reducible exact LeO.none _)
      | (with_reducible refine LeO.ite ?_ ?_)
      | (with_reducible refine LeO.bind ?_ (fun _ => ?_))
      | exact corralref1_Bits.mono _ _ _ _
      | exact LeO.none _
      | refine LeO.ite ?_ ?_
      | refine LeO.bind ?_ (fun _ => ?_)
set_option maxHeartbeats 8000000 in
set_option maxRecDepth 100000 in
theorem corralref1_Place.calls (k : Nat) (a0 : Int) (a1 : Int) (a2 : Int) (r : Int) (w : World) (h : corralref1_Place.f k a0 a1 a2 = some r) :
    Calls Try.prog 45 #[.int .u32 a0, .int .i64 a1, .int .i64 a2] w fun e w' => e = .returned (.int .u32 r) ∧ Drawn0 w w' := by
  have H : (if a1 < 0 then (some 0) else (if a1 > 31 then (some 0) else (if a2 < 1 then (some 0) else ((corralref1_Bits.f k a0 0 a2).bind fun t170 => (if 0 ≤ (IntKind.u64.wrap (a1)) then (some (shl .u32 t170 (IntKind.u64.wrap (a1)))) else (none)))))) = some r := h
  clear h
  by_cases c4 : a1 < 0
  · rw [if_pos c4] at H
    have c4b0 : decide (a1 < 0) = true := decide_eq_true c4
    clear c4
    obtain rfl := Option.some.inj H
    go_enter Try.func45, Try.ntmps45
    go_wp2
    go_ret
    exact ⟨by first | rfl | (simp; done) | (simp [*]; done), by repeat (first | exact Drawn0.refl _ | apply Drawn0.step)⟩
  · rw [if_neg c4] at H
    have c4b0 : decide (a1 < 0) = false := decide_eq_false c4
    clear c4
    by_cases c5 : a1 > 31
    · rw [if_pos c5] at H
      have c5b0 : decide (31 < a1) = true := decide_eq_true c5
      clear c5
      obtain rfl := Option.some.inj H
      go_enter Try.func45, Try.ntmps45
      go_wp2
      go_ret
      exact ⟨by first | rfl | (simp; done) | (simp [*]; done), by repeat (first | exact Drawn0.refl _ | apply Drawn0.step)⟩
    · rw [if_neg c5] at H
      have c5b0 : decide (31 < a1) = false := decide_eq_false c5
      clear c5
      by_cases c6 : a2 < 1
      · rw [if_pos c6] at H
        have c6b0 : decide (a2 < 1) = true := decide_eq_true c6
        clear c6
        obtain rfl := Option.some.inj H
        go_enter Try.func45, Try.ntmps45
        go_wp2
        go_ret
        exact ⟨by first | rfl | (simp; done) | (simp [*]; done), by repeat (first | exact Drawn0.refl _ | apply Drawn0.step)⟩
      · rw [if_neg c6] at H
        have c6b0 : decide (a2 < 1) = false := decide_eq_false c6
        clear c6
        replace H := Option.bind_eq_some_iff.mp H
        obtain ⟨t170, A70, H⟩ := H
        replace H : (if 0 ≤ (IntKind.u64.wrap (a1)) then (some (shl .u32 t170 (IntKind.u64.wrap (a1)))) else (none)) = some r := H
        have A7 := Aside0.mk A70
        clear A70
        obtain ⟨ji8, hji8⟩ : ∃ j_ : Int, (IntKind.u64.wrap (a1)) = j_ := ⟨_, rfl⟩
        replace H : (if 0 ≤ (ji8) then (some (shl .u32 t170 (ji8))) else (none)) = some r := by first | (rw [hji8] at H; exact H) | (simp only [hji8] at H ⊢; exact H)
        (try rw [hji8] at A7)
        by_cases c9 : 0 ≤ (ji8)
        · rw [if_pos c9] at H
          have c9b0 := eq_true c9
          have c9b1 : decide (0 ≤ (ji8)) = true := decide_eq_true c9
          clear c9
          obtain ⟨ji10, hji10⟩ : ∃ j_ : Int, (shl .u32 t170 (ji8)) = j_ := ⟨_, rfl⟩
          replace H : (some ji10) = some r := by first | (rw [hji10] at H; exact H) | (simp only [hji10] at H ⊢; exact H)
          (try rw [hji10] at A7)
          have hji10_ : (IntKind.u32.wrap (t170 * 2 ^ min (ji8).toNat 32)) = ji10 := hji10
          have hji10z : (ji8) ≤ 32 → (IntKind.u32.wrap (t170 * 2 ^ (ji8).toNat)) = ji10 := shl_small hji10
          obtain rfl := Option.some.inj H
          go_enter Try.func45, Try.ntmps45
          go_wp2_with (first | ((with_reducible refine gate_callee (f := 47) rfl ?_); refine goesL_ (some 19) rfl rfl Try.func47 (by kernel_rfl) rfl #[.int .u32 a0, .int .i64 0, .int .i64 a2] rfl (by (try simp only [List.map_toArray, List.map_cons, List.map_nil]); first | done | rfl | (simp only [List.length_drop, List.length_take]; rfl)) ?_; (with_reducible refine (corralref1_Bits.calls k a0 0 a2 t170 _ A7.out).mono ?_); rintro e w' ⟨rfl, ⟨nd, rfl⟩⟩; refine ⟨_, rfl, ?_⟩))
          go_ret
          exact ⟨by first | rfl | (simp; done) | (simp only [← hji8, ← hji10] <;> (first | rfl | simp)) | (simp [*]; done), by repeat (first | exact Drawn0.refl _ | apply Drawn0.step)⟩
        · rw [if_neg c9] at H
          exact absurd H (by simp)

/-! ### corralref1_Lay: function 18 -/
def corralref1_Lay.f (k : Nat) (a0 : Int) (a1 : Int) : Option (Int × Bool) := if a0 = 73 then ((corralref1_Place.f k a1 20 12).bind fun t171 => ((corralref1_Imm.f k a0 t171).bind fun t172 => (if t172 = a1 then (some (t171, true)) else (some (0, false))))) else (if a0 = 83 then ((corralref1_Place.f k (a1 / 32) 25 7).bind fun t173 => ((corralref1_Place.f k a1 7 5).bind fun t174 => ((corralref1_Imm.f k a0 (Go.bits .or .u32 t173 t174)).bind fun t175 => (if t175 = a1 then (some (Go.bits .or .u32 t173 t174, true)) else (some (0, false)))))) else (if a0 = 66 then ((corralref1_Place.f k (a1 / 4096) 31 1).bind fun t176 => ((corralref1_Place.f k (a1 / 2048) 7 1).bind fun t177 => ((corralref1_Place.f k (a1 / 32) 25 6).bind fun t178 => ((corralref1_Place.f k (a1 / 2) 8 4).bind fun t179 => ((corralref1_Imm.f k a0 (Go.bits .or .u32 (Go.bits .or .u32 (Go.bits .or .u32 t176 t177) t178) t179)).bind fun t180 => (if t180 = a1 then (some (Go.bits .or .u32 (Go.bits .or .u32 (Go.bits .or .u32 t176 t177) t178) t179, true)) else (some (0, false)))))))) else (if a0 = 85 then ((corralref1_Place.f k (a1 / 4096) 12 20).bind fun t181 => ((corralref1_Imm.f k a0 t181).bind fun t182 => (if t182 = a1 then (some (t181, true)) else (some (0, false))))) else (if a0 = 74 then ((corralref1_Place.f k (a1 / 1048576) 31 1).bind fun t183 => ((corralref1_Place.f k (a1 / 4096) 12 8).bind fun t184 => ((corralref1_Place.f k (a1 / 2048) 20 1).bind fun t185 => ((corralref1_Place.f k (a1 / 2) 21 10).bind fun t186 => ((corralref1_Imm.f k a0 (Go.bits .or .u32 (Go.bits .or .u32 (Go.bits .or .u32 t183 t184) t185) t186)).bind fun t187 => (if t187 = a1 then (some (Go.bits .or .u32 (Go.bits .or .u32 (Go.bits .or .u32 t183 t184) t185) t186, true)) else (some (0, false)))))))) else (some (0, false))))))
theorem corralref1_Lay.mono : ∀ a0 a1 k, LeO (corralref1_Lay.f k a0 a1) (corralref1_Lay.f (k + 1) a0 a1) := by
  intro a0 a1 k
  unfold corralref1_Lay.f
  repeat' first
      | (with_reducible exact corralref1_Imm.mono _ _ _)
      | (with_reducible exact corralref1_Place.mono _ _ _ _)
      | (with_reducible exact LeO.refl _)
      | (with_reducible exact LeO.none _)
      | (with_reducible refine LeO.ite ?_ ?_)
      | (with_reducible refine LeO.bind ?_ (fun _ => ?_))
      | exact corralref1_Imm.mono _ _ _
      | exact corralref1_Place.mono _ _ _ _
      | exact LeO.none _
      | refine LeO.ite ?_ ?_
      | refine LeO.bind ?_ (fun _ => ?_)
set_option maxHeartbeats 8000000 in
set_option maxRecDepth 100000 in
theorem corralref1_Lay.calls (k : Nat) (a0 : Int) (a1 : Int) (r1 : Int) (r2 : Bool) (w : World) (h : corralref1_Lay.f k a0 a1 = some (r1, r2)) :
    Calls Try.prog 18 #[.int .u8 a0, .int .u32 a1] w fun e w' => e = .returned (.tuple #[.int .u32 r1, .bool r2]) ∧ Drawn0 w w' := by
  have H : (if a0 = 73 then ((corralref1_Place.f k a1 20 12).bind fun t171 => ((corralref1_Imm.f k a0 t171).bind fun t172 => (if t172 = a1 then (some (t171, true)) else (some (0, false))))) else (if a0 = 83 then ((corralref1_Place.f k (a1 / 32) 25 7).bind fun t173 => ((corralref1_Place.f k a1 7 5).bind fun t174 => ((corralref1_Imm.f k a0 (Go.bits .or .u32 t173 t174)).bind fun t175 => (if t175 = a1 then (some (Go.bits .or .u32 t173 t174, true)) else (some (0, false)))))) else (if a0 = 66 then ((corralref1_Place.f k (a1 / 4096) 31 1).bind fun t176 => ((corralref1_Place.f k (a1 / 2048) 7 1).bind fun t177 => ((corralref1_Place.f k (a1 / 32) 25 6).bind fun t178 => ((corralref1_Place.f k (a1 / 2) 8 4).bind fun t179 => ((corralref1_Imm.f k a0 (Go.bits .or .u32 (Go.bits .or .u32 (Go.bits .or .u32 t176 t177) t178) t179)).bind fun t180 => (if t180 = a1 then (some (Go.bits .or .u32 (Go.bits .or .u32 (Go.bits .or .u32 t176 t177) t178) t179, true)) else (some (0, false)))))))) else (if a0 = 85 then ((corralref1_Place.f k (a1 / 4096) 12 20).bind fun t181 => ((corralref1_Imm.f k a0 t181).bind fun t182 => (if t182 = a1 then (some (t181, true)) else (some (0, false))))) else (if a0 = 74 then ((corralref1_Place.f k (a1 / 1048576) 31 1).bind fun t183 => ((corralref1_Place.f k (a1 / 4096) 12 8).bind fun t184 => ((corralref1_Place.f k (a1 / 2048) 20 1).bind fun t185 => ((corralref1_Place.f k (a1 / 2) 21 10).bind fun t186 => ((corralref1_Imm.f k a0 (Go.bits .or .u32 (Go.bits .or .u32 (Go.bits .or .u32 t183 t184) t185) t186)).bind fun t187 => (if t187 = a1 then (some (Go.bits .or .u32 (Go.bits .or .u32 (Go.bits .or .u32 t183 t184) t185) t186, true)) else (some (0, false)))))))) else (some (0, false))))))) = some (r1, r2) := h
  clear h
  by_cases c3 : a0 = 73
  · rw [if_pos c3] at H
    have c3b0 : (a0 == 73) = true := beq_iff_eq.mpr c3
    have c3b1 : (a0 != 73) = false := bne_eq_false_iff_eq.mpr c3
    clear c3
    replace H := Option.bind_eq_some_iff.mp H
    obtain ⟨t171, A40, H⟩ := H
    replace H : ((corralref1_Imm.f k a0 t171).bind fun t172 => (if t172 = a1 then (some (t171, true)) else (some (0, false)))) = some (r1, r2) := H
    have A4 := Aside0.mk A40
    clear A40
    replace H := Option.bind_eq_some_iff.mp H
    obtain ⟨t172, A50, H⟩ := H
    replace H : (if t172 = a1 then (some (t171, true)) else (some (0, false))) = some (r1, r2) := H
    have A5 := Aside0.mk A50
    clear A50
    by_cases c6 : t172 = a1
    · rw [if_pos c6] at H
      have c6b0 : (t172 == a1) = true := beq_iff_eq.mpr c6
      have c6b1 : (t172 != a1) = false := bne_eq_false_iff_eq.mpr c6
      clear c6
      simp only [Option.some.injEq, Prod.mk.injEq] at H
      obtain ⟨rfl, rfl⟩ := H
      go_enter Try.func18, Try.ntmps18
      go_wp2_with (first | ((with_reducible refine gate_callee (f := 45) rfl ?_); refine goesL_ (some 11) rfl rfl Try.func45 (by kernel_rfl) rfl #[.int .u32 a1, .int .i64 20, .int .i64 12] rfl (by (try simp only [List.map_toArray, List.map_cons, List.map_nil]); first | done | rfl | (simp only [List.length_drop, List.length_take]; rfl)) ?_; (with_reducible refine (corralref1_Place.calls k a1 20 12 t171 _ A4.out).mono ?_); rintro e w' ⟨rfl, ⟨nd, rfl⟩⟩; refine ⟨_, rfl, ?_⟩) | ((with_reducible refine gate_callee (f := 19) rfl ?_); refine goesL_ (some 61) rfl rfl Try.func19 (by kernel_rfl) rfl #[.int .u8 a0, .int .u32 t171] rfl (by (try simp only [List.map_toArray, List.map_cons, List.map_nil]); first | done | rfl | (simp only [List.length_drop, List.length_take]; rfl)) ?_; (with_reducible refine (corralref1_Imm.calls k a0 t171 t172 _ A5.out).mono ?_); rintro e w' ⟨rfl, ⟨nd, rfl⟩⟩; refine ⟨_, rfl, ?_⟩))
      go_ret2
      exact ⟨by first | rfl | (simp; done) | (simp [*]; done), by repeat (first | exact Drawn0.refl _ | apply Drawn0.step)⟩
    · rw [if_neg c6] at H
      have c6b0 : (t172 == a1) = false := beq_eq_false_iff_ne.mpr c6
      have c6b1 : (t172 != a1) = true := bne_iff_ne.mpr c6
      simp only [Option.some.injEq, Prod.mk.injEq] at H
      obtain ⟨rfl, rfl⟩ := H
      go_enter Try.func18, Try.ntmps18
      go_wp2_with (first | ((with_reducible refine gate_callee (f := 45) rfl ?_); refine goesL_ (some 11) rfl rfl Try.func45 (by kernel_rfl) rfl #[.int .u32 a1, .int .i64 20, .int .i64 12] rfl (by (try simp only [List.map_toArray, List.map_cons, List.map_nil]); first | done | rfl | (simp only [List.length_drop, List.length_take]; rfl)) ?_; (with_reducible refine (corralref1_Place.calls k a1 20 12 t171 _ A4.out).mono ?_); rintro e w' ⟨rfl, ⟨nd, rfl⟩⟩; refine ⟨_, rfl, ?_⟩) | ((with_reducible refine gate_callee (f := 19) rfl ?_); refine goesL_ (some 61) rfl rfl Try.func19 (by kernel_rfl) rfl #[.int .u8 a0, .int .u32 t171] rfl (by (try simp only [List.map_toArray, List.map_cons, List.map_nil]); first | done | rfl | (simp only [List.length_drop, List.length_take]; rfl)) ?_; (with_reducible refine (corralref1_Imm.calls k a0 t171 t172 _ A5.out).mono ?_); rintro e w' ⟨rfl, ⟨nd, rfl⟩⟩; refine ⟨_, rfl, ?_⟩))
      go_ret2
      exact ⟨by first | rfl | (simp; done) | (simp [*]; done), by repeat (first | exact Drawn0.refl _ | apply Drawn0.step)⟩
  · rw [if_neg c3] at H
    have c3b0 : (a0 == 73) = false := beq_eq_false_iff_ne.mpr c3
    have c3b1 : (a0 != 73) = true := bne_iff_ne.mpr c3
    by_cases c7 : a0 = 83
    · rw [if_pos c7] at H
      have c7b0 : (a0 == 83) = true := beq_iff_eq.mpr c7
      have c7b1 : (a0 != 83) = false := bne_eq_false_iff_eq.mpr c7
      clear c7
      replace H := Option.bind_eq_some_iff.mp H
      obtain ⟨t173, A80, H⟩ := H
      replace H : ((corralref1_Place.f k a1 7 5).bind fun t174 => ((corralref1_Imm.f k a0 (Go.bits .or .u32 t173 t174)).bind fun t175 => (if t175 = a1 then (some (Go.bits .or .u32 t173 t174, true)) else (some (0, false))))) = some (r1, r2) := H
      have A8 := Aside0.mk A80
      clear A80
      replace H := Option.bind_eq_some_iff.mp H
      obtain ⟨t174, A90, H⟩ := H
      replace H : ((corralref1_Imm.f k a0 (Go.bits .or .u32 t173 t174)).bind fun t175 => (if t175 = a1 then (some (Go.bits .or .u32 t173 t174, true)) else (some (0, false)))) = some (r1, r2) := H
      have A9 := Aside0.mk A90
      clear A90
      replace H := Option.bind_eq_some_iff.mp H
      obtain ⟨t175, A100, H⟩ := H
      replace H : (if t175 = a1 then (some (Go.bits .or .u32 t173 t174, true)) else (some (0, false))) = some (r1, r2) := H
      have A10 := Aside0.mk A100
      clear A100
      by_cases c11 : t175 = a1
      · rw [if_pos c11] at H
        have c11b0 : (t175 == a1) = true := beq_iff_eq.mpr c11
        have c11b1 : (t175 != a1) = false := bne_eq_false_iff_eq.mpr c11
        clear c11
        simp only [Option.some.injEq, Prod.mk.injEq] at H
        obtain ⟨rfl, rfl⟩ := H
        go_enter Try.func18, Try.ntmps18
        go_wp2_with (first | ((with_reducible refine gate_callee (f := 45) rfl ?_); refine goesL_ (some 16) rfl rfl Try.func45 (by kernel_rfl) rfl #[.int .u32 (a1 / 32), .int .i64 25, .int .i64 7] rfl (by (try simp only [List.map_toArray, List.map_cons, List.map_nil]); first | done | rfl | (simp only [List.length_drop, List.length_take]; rfl)) ?_; (with_reducible refine (corralref1_Place.calls k (a1 / 32) 25 7 t173 _ A8.out).mono ?_); rintro e w' ⟨rfl, ⟨nd, rfl⟩⟩; refine ⟨_, rfl, ?_⟩) | ((with_reducible refine gate_callee (f := 45) rfl ?_); refine goesL_ (some 18) rfl rfl Try.func45 (by kernel_rfl) rfl #[.int .u32 a1, .int .i64 7, .int .i64 5] rfl (by (try simp only [List.map_toArray, List.map_cons, List.map_nil]); first | done | rfl | (simp only [List.length_drop, List.length_take]; rfl)) ?_; (with_reducible refine (corralref1_Place.calls k a1 7 5 t174 _ A9.out).mono ?_); rintro e w' ⟨rfl, ⟨nd, rfl⟩⟩; refine ⟨_, rfl, ?_⟩) | ((with_reducible refine gate_callee (f := 19) rfl ?_); refine goesL_ (some 61) rfl rfl Try.func19 (by kernel_rfl) rfl #[.int .u8 a0, .int .u32 (Go.bits .or .u32 t173 t174)] rfl (by (try simp only [List.map_toArray, List.map_cons, List.map_nil]); first | done | rfl | (simp only [List.length_drop, List.length_take]; rfl)) ?_; (with_reducible refine (corralref1_Imm.calls k a0 (Go.bits .or .u32 t173 t174) t175 _ A10.out).mono ?_); rintro e w' ⟨rfl, ⟨nd, rfl⟩⟩; refine ⟨_, rfl, ?_⟩))
        go_ret2
        exact ⟨by first | rfl | (simp; done) | (simp [*]; done), by repeat (first | exact Drawn0.refl _ | apply Drawn0.step)⟩
      · rw [if_neg c11] at H
        have c11b0 : (t175 == a1) = false := beq_eq_false_iff_ne.mpr c11
        have c11b1 : (t175 != a1) = true := bne_iff_ne.mpr c11
        simp only [Option.some.injEq, Prod.mk.injEq] at H
        obtain ⟨rfl, rfl⟩ := H
        go_enter Try.func18, Try.ntmps18
        go_wp2_with (first | ((with_reducible refine gate_callee (f := 45) rfl ?_); refine goesL_ (some 16) rfl rfl Try.func45 (by kernel_rfl) rfl #[.int .u32 (a1 / 32), .int .i64 25, .int .i64 7] rfl (by (try simp only [List.map_toArray, List.map_cons, List.map_nil]); first | done | rfl | (simp only [List.length_drop, List.length_take]; rfl)) ?_; (with_reducible refine (corralref1_Place.calls k (a1 / 32) 25 7 t173 _ A8.out).mono ?_); rintro e w' ⟨rfl, ⟨nd, rfl⟩⟩; refine ⟨_, rfl, ?_⟩) | ((with_reducible refine gate_callee (f := 45) rfl ?_); refine goesL_ (some 18) rfl rfl Try.func45 (by kernel_rfl) rfl #[.int .u32 a1, .int .i64 7, .int .i64 5] rfl (by (try simp only [List.map_toArray, List.map_cons, List.map_nil]); first | done | rfl | (simp only [List.length_drop, List.length_take]; rfl)) ?_; (with_reducible refine (corralref1_Place.calls k a1 7 5 t174 _ A9.out).mono ?_); rintro e w' ⟨rfl, ⟨nd, rfl⟩⟩; refine ⟨_, rfl, ?_⟩) | ((with_reducible refine gate_callee (f := 19) rfl ?_); refine goesL_ (some 61) rfl rfl Try.func19 (by kernel_rfl) rfl #[.int .u8 a0, .int .u32 (Go.bits .or .u32 t173 t174)] rfl (by (try simp only [List.map_toArray, List.map_cons, List.map_nil]); first | done | rfl | (simp only [List.length_drop, List.length_take]; rfl)) ?_; (with_reducible refine (corralref1_Imm.calls k a0 (Go.bits .or .u32 t173 t174) t175 _ A10.out).mono ?_); rintro e w' ⟨rfl, ⟨nd, rfl⟩⟩; refine ⟨_, rfl, ?_⟩))
        go_ret2
        exact ⟨by first | rfl | (simp; done) | (simp [*]; done), by repeat (first | exact Drawn0.refl _ | apply Drawn0.step)⟩
    · rw [if_neg c7] at H
      have c7b0 : (a0 == 83) = false := beq_eq_false_iff_ne.mpr c7
      have c7b1 : (a0 != 83) = true := bne_iff_ne.mpr c7
      by_cases c12 : a0 = 66
      · rw [if_pos c12] at H
        have c12b0 : (a0 == 66) = true := beq_iff_eq.mpr c12
        have c12b1 : (a0 != 66) = false := bne_eq_false_iff_eq.mpr c12
        clear c12
        replace H := Option.bind_eq_some_iff.mp H
        obtain ⟨t176, A130, H⟩ := H
        replace H : ((corralref1_Place.f k (a1 / 2048) 7 1).bind fun t177 => ((corralref1_Place.f k (a1 / 32) 25 6).bind fun t178 => ((corralref1_Place.f k (a1 / 2) 8 4).bind fun t179 => ((corralref1_Imm.f k a0 (Go.bits .or .u32 (Go.bits .or .u32 (Go.bits .or .u32 t176 t177) t178) t179)).bind fun t180 => (if t180 = a1 then (some (Go.bits .or .u32 (Go.bits .or .u32 (Go.bits .or .u32 t176 t177) t178) t179, true)) else (some (0, false))))))) = some (r1, r2) := H
        have A13 := Aside0.mk A130
        clear A130
        replace H := Option.bind_eq_some_iff.mp H
        obtain ⟨t177, A140, H⟩ := H
        replace H : ((corralref1_Place.f k (a1 / 32) 25 6).bind fun t178 => ((corralref1_Place.f k (a1 / 2) 8 4).bind fun t179 => ((corralref1_Imm.f k a0 (Go.bits .or .u32 (Go.bits .or .u32 (Go.bits .or .u32 t176 t177) t178) t179)).bind fun t180 => (if t180 = a1 then (some (Go.bits .or .u32 (Go.bits .or .u32 (Go.bits .or .u32 t176 t177) t178) t179, true)) else (some (0, false)))))) = some (r1, r2) := H
        have A14 := Aside0.mk A140
        clear A140
        replace H := Option.bind_eq_some_iff.mp H
        obtain ⟨t178, A150, H⟩ := H
        replace H : ((corralref1_Place.f k (a1 / 2) 8 4).bind fun t179 => ((corralref1_Imm.f k a0 (Go.bits .or .u32 (Go.bits .or .u32 (Go.bits .or .u32 t176 t177) t178) t179)).bind fun t180 => (if t180 = a1 then (some (Go.bits .or .u32 (Go.bits .or .u32 (Go.bits .or .u32 t176 t177) t178) t179, true)) else (some (0, false))))) = some (r1, r2) := H
        have A15 := Aside0.mk A150
        clear A150
        replace H := Option.bind_eq_some_iff.mp H
        obtain ⟨t179, A160, H⟩ := H
        replace H : ((corralref1_Imm.f k a0 (Go.bits .or .u32 (Go.bits .or .u32 (Go.bits .or .u32 t176 t177) t178) t179)).bind fun t180 => (if t180 = a1 then (some (Go.bits .or .u32 (Go.bits .or .u32 (Go.bits .or .u32 t176 t177) t178) t179, true)) else (some (0, false)))) = some (r1, r2) := H
        have A16 := Aside0.mk A160
        clear A160
        replace H := Option.bind_eq_some_iff.mp H
        obtain ⟨t180, A170, H⟩ := H
        replace H : (if t180 = a1 then (some (Go.bits .or .u32 (Go.bits .or .u32 (Go.bits .or .u32 t176 t177) t178) t179, true)) else (some (0, false))) = some (r1, r2) := H
        have A17 := Aside0.mk A170
        clear A170
        by_cases c18 : t180 = a1
        · rw [if_pos c18] at H
          have c18b0 : (t180 == a1) = true := beq_iff_eq.mpr c18
          have c18b1 : (t180 != a1) = false := bne_eq_false_iff_eq.mpr c18
          clear c18
          simp only [Option.some.injEq, Prod.mk.injEq] at H
          obtain ⟨rfl, rfl⟩ := H
          go_enter Try.func18, Try.ntmps18
          go_wp2_with (first | ((with_reducible refine gate_callee (f := 45) rfl ?_); refine goesL_ (some 24) rfl rfl Try.func45 (by kernel_rfl) rfl #[.int .u32 (a1 / 4096), .int .i64 31, .int .i64 1] rfl (by (try simp only [List.map_toArray, List.map_cons, List.map_nil]); first | done | rfl | (simp only [List.length_drop, List.length_take]; rfl)) ?_; (with_reducible refine (corralref1_Place.calls k (a1 / 4096) 31 1 t176 _ A13.out).mono ?_); rintro e w' ⟨rfl, ⟨nd, rfl⟩⟩; refine ⟨_, rfl, ?_⟩) | ((with_reducible refine gate_callee (f := 45) rfl ?_); refine goesL_ (some 27) rfl rfl Try.func45 (by kernel_rfl) rfl #[.int .u32 (a1 / 2048), .int .i64 7, .int .i64 1] rfl (by (try simp only [List.map_toArray, List.map_cons, List.map_nil]); first | done | rfl | (simp only [List.length_drop, List.length_take]; rfl)) ?_; (with_reducible refine (corralref1_Place.calls k (a1 / 2048) 7 1 t177 _ A14.out).mono ?_); rintro e w' ⟨rfl, ⟨nd, rfl⟩⟩; refine ⟨_, rfl, ?_⟩) | ((with_reducible refine gate_callee (f := 45) rfl ?_); refine goesL_ (some 31) rfl rfl Try.func45 (by kernel_rfl) rfl #[.int .u32 (a1 / 32), .int .i64 25, .int .i64 6] rfl (by (try simp only [List.map_toArray, List.map_cons, List.map_nil]); first | done | rfl | (simp only [List.length_drop, List.length_take]; rfl)) ?_; (with_reducible refine (corralref1_Place.calls k (a1 / 32) 25 6 t178 _ A15.out).mono ?_); rintro e w' ⟨rfl, ⟨nd, rfl⟩⟩; refine ⟨_, rfl, ?_⟩) | ((with_reducible refine gate_callee (f := 45) rfl ?_); refine goesL_ (some 35) rfl rfl Try.func45 (by kernel_rfl) rfl #[.int .u32 (a1 / 2), .int .i64 8, .int .i64 4] rfl (by (try simp only [List.map_toArray, List.map_cons, List.map_nil]); first | done | rfl | (simp only [List.length_drop, List.length_take]; rfl)) ?_; (with_reducible refine (corralref1_Place.calls k (a1 / 2) 8 4 t179 _ A16.out).mono ?_); rintro e w' ⟨rfl, ⟨nd, rfl⟩⟩; refine ⟨_, rfl, ?_⟩) | ((with_reducible refine gate_callee (f := 19) rfl ?_); refine goesL_ (some 61) rfl rfl Try.func19 (by kernel_rfl) rfl #[.int .u8 a0, .int .u32 (Go.bits .or .u32 (Go.bits .or .u32 (Go.bits .or .u32 t176 t177) t178) t179)] rfl (by (try simp only [List.map_toArray, List.map_cons, List.map_nil]); first | done | rfl | (simp only [List.length_drop, List.length_take]; rfl)) ?_; (with_reducible refine (corralref1_Imm.calls k a0 (Go.bits .or .u32 (Go.bits .or .u32 (Go.bits .or .u32 t176 t177) t178) t179) t180 _ A17.out).mono ?_); rintro e w' ⟨rfl, ⟨nd, rfl⟩⟩; refine ⟨_, rfl, ?_⟩))
          go_ret2
          exact ⟨by first | rfl | (simp; done) | (simp [*]; done), by repeat (first | exact Drawn0.refl _ | apply Drawn0.step)⟩
        · rw [if_neg c18] at H
          have c18b0 : (t180 == a1) = false := beq_eq_false_iff_ne.mpr c18
          have c18b1 : (t180 != a1) = true := bne_iff_ne.mpr c18
          simp only [Option.some.injEq, Prod.mk.injEq] at H
          obtain ⟨rfl, rfl⟩ := H
          go_enter Try.func18, Try.ntmps18
          go_wp2_with (first | ((with_reducible refine gate_callee (f := 45) rfl ?_); refine goesL_ (some 24) rfl rfl Try.func45 (by kernel_rfl) rfl #[.int .u32 (a1 / 4096), .int .i64 31, .int .i64 1] rfl (by (try simp only [List.map_toArray, List.map_cons, List.map_nil]); first | done | rfl | (simp only [List.length_drop, List.length_take]; rfl)) ?_; (with_reducible refine (corralref1_Place.calls k (a1 / 4096) 31 1 t176 _ A13.out).mono ?_); rintro e w' ⟨rfl, ⟨nd, rfl⟩⟩; refine ⟨_, rfl, ?_⟩) | ((with_reducible refine gate_callee (f := 45) rfl ?_); refine goesL_ (some 27) rfl rfl Try.func45 (by kernel_rfl) rfl #[.int .u32 (a1 / 2048), .int .i64 7, .int .i64 1] rfl (by (try simp only [List.map_toArray, List.map_cons, List.map_nil]); first | done | rfl | (simp only [List.length_drop, List.length_take]; rfl)) ?_; (with_reducible refine (corralref1_Place.calls k (a1 / 2048) 7 1 t177 _ A14.out).mono ?_); rintro e w' ⟨rfl, ⟨nd, rfl⟩⟩; refine ⟨_, rfl, ?_⟩) | ((with_reducible refine gate_callee (f := 45) rfl ?_); refine goesL_ (some 31) rfl rfl Try.func45 (by kernel_rfl) rfl #[.int .u32 (a1 / 32), .int .i64 25, .int .i64 6] rfl (by (try simp only [List.map_toArray, List.map_cons, List.map_nil]); first | done | rfl | (simp only [List.length_drop, List.length_take]; rfl)) ?_; (with_reducible refine (corralref1_Place.calls k (a1 / 32) 25 6 t178 _ A15.out).mono ?_); rintro e w' ⟨rfl, ⟨nd, rfl⟩⟩; refine ⟨_, rfl, ?_⟩) | ((with_reducible refine gate_callee (f := 45) rfl ?_); refine goesL_ (some 35) rfl rfl Try.func45 (by kernel_rfl) rfl #[.int .u32 (a1 / 2), .int .i64 8, .int .i64 4] rfl (by (try simp only [List.map_toArray, List.map_cons, List.map_nil]); first | done | rfl | (simp only [List.length_drop, List.length_take]; rfl)) ?_; (with_reducible refine (corralref1_Place.calls k (a1 / 2) 8 4 t179 _ A16.out).mono ?_); rintro e w' ⟨rfl, ⟨nd, rfl⟩⟩; refine ⟨_, rfl, ?_⟩) | ((with_reducible refine gate_callee (f := 19) rfl ?_); refine goesL_ (some 61) rfl rfl Try.func19 (by kernel_rfl) rfl #[.int .u8 a0, .int .u32 (Go.bits .or .u32 (Go.bits .or .u32 (Go.bits .or .u32 t176 t177) t178) t179)] rfl (by (try simp only [List.map_toArray, List.map_cons, List.map_nil]); first | done | rfl | (simp only [List.length_drop, List.length_take]; rfl)) ?_; (with_reducible refine (corralref1_Imm.calls k a0 (Go.bits .or .u32 (Go.bits .or .u32 (Go.bits .or .u32 t176 t177) t178) t179) t180 _ A17.out).mono ?_); rintro e w' ⟨rfl, ⟨nd, rfl⟩⟩; refine ⟨_, rfl, ?_⟩))
          go_ret2
          exact ⟨by first | rfl | (simp; done) | (simp [*]; done), by repeat (first | exact Drawn0.refl _ | apply Drawn0.step)⟩
      · rw [if_neg c12] at H
        have c12b0 : (a0 == 66) = false := beq_eq_false_iff_ne.mpr c12
        have c12b1 : (a0 != 66) = true := bne_iff_ne.mpr c12
        by_cases c19 : a0 = 85
        · rw [if_pos c19] at H
          have c19b0 : (a0 == 85) = true := beq_iff_eq.mpr c19
          have c19b1 : (a0 != 85) = false := bne_eq_false_iff_eq.mpr c19
          clear c19
          replace H := Option.bind_eq_some_iff.mp H
          obtain ⟨t181, A200, H⟩ := H
          replace H : ((corralref1_Imm.f k a0 t181).bind fun t182 => (if t182 = a1 then (some (t181, true)) else (some (0, false)))) = some (r1, r2) := H
          have A20 := Aside0.mk A200
          clear A200
          replace H := Option.bind_eq_some_iff.mp H
          obtain ⟨t182, A210, H⟩ := H
          replace H : (if t182 = a1 then (some (t181, true)) else (some (0, false))) = some (r1, r2) := H
          have A21 := Aside0.mk A210
          clear A210
          by_cases c22 : t182 = a1
          · rw [if_pos c22] at H
            have c22b0 : (t182 == a1) = true := beq_iff_eq.mpr c22
            have c22b1 : (t182 != a1) = false := bne_eq_false_iff_eq.mpr c22
            clear c22
            simp only [Option.some.injEq, Prod.mk.injEq] at H
            obtain ⟨rfl, rfl⟩ := H
            go_enter Try.func18, Try.ntmps18
            go_wp2_with (first | ((with_reducible refine gate_callee (f := 45) rfl ?_); refine goesL_ (some 41) rfl rfl Try.func45 (by kernel_rfl) rfl #[.int .u32 (a1 / 4096), .int .i64 12, .int .i64 20] rfl (by (try simp only [List.map_toArray, List.map_cons, List.map_nil]); first | done | rfl | (simp only [List.length_drop, List.length_take]; rfl)) ?_; (with_reducible refine (corralref1_Place.calls k (a1 / 4096) 12 20 t181 _ A20.out).mono ?_); rintro e w' ⟨rfl, ⟨nd, rfl⟩⟩; refine ⟨_, rfl, ?_⟩) | ((with_reducible refine gate_callee (f := 19) rfl ?_); refine goesL_ (some 61) rfl rfl Try.func19 (by kernel_rfl) rfl #[.int .u8 a0, .int .u32 t181] rfl (by (try simp only [List.map_toArray, List.map_cons, List.map_nil]); first | done | rfl | (simp only [List.length_drop, List.length_take]; rfl)) ?_; (with_reducible refine (corralref1_Imm.calls k a0 t181 t182 _ A21.out).mono ?_); rintro e w' ⟨rfl, ⟨nd, rfl⟩⟩; refine ⟨_, rfl, ?_⟩))
            go_ret2
            exact ⟨by first | rfl | (simp; done) | (simp [*]; done), by repeat (first | exact Drawn0.refl _ | apply Drawn0.step)⟩
          · rw [if_neg c22] at H
            have c22b0 : (t182 == a1) = false := beq_eq_false_iff_ne.mpr c22
            have c22b1 : (t182 != a1) = true := bne_iff_ne.mpr c22
            simp only [Option.some.injEq, Prod.mk.injEq] at H
            obtain ⟨rfl, rfl⟩ := H
            go_enter Try.func18, Try.ntmps18
            go_wp2_with (first | ((with_reducible refine gate_callee (f := 45) rfl ?_); refine goesL_ (some 41) rfl rfl Try.func45 (by kernel_rfl) rfl #[.int .u32 (a1 / 4096), .int .i64 12, .int .i64 20] rfl (by (try simp only [List.map_toArray, List.map_cons, List.map_nil]); first | done | rfl | (simp only [List.length_drop, List.length_take]; rfl)) ?_; (with_reducible refine (corralref1_Place.calls k (a1 / 4096) 12 20 t181 _ A20.out).mono ?_); rintro e w' ⟨rfl, ⟨nd, rfl⟩⟩; refine ⟨_, rfl, ?_⟩) | ((with_reducible refine gate_callee (f := 19) rfl ?_); refine goesL_ (some 61) rfl rfl Try.func19 (by kernel_rfl) rfl #[.int .u8 a0, .int .u32 t181] rfl (by (try simp only [List.map_toArray, List.map_cons, List.map_nil]); first | done | rfl | (simp only [List.length_drop, List.length_take]; rfl)) ?_; (with_reducible refine (corralref1_Imm.calls k a0 t181 t182 _ A21.out).mono ?_); rintro e w' ⟨rfl, ⟨nd, rfl⟩⟩; refine ⟨_, rfl, ?_⟩))
            go_ret2
            exact ⟨by first | rfl | (simp; done) | (simp [*]; done), by repeat (first | exact Drawn0.refl _ | apply Drawn0.step)⟩
        · rw [if_neg c19] at H
          have c19b0 : (a0 == 85) = false := beq_eq_false_iff_ne.mpr c19
          have c19b1 : (a0 != 85) = true := bne_iff_ne.mpr c19
          by_cases c23 : a0 = 74
          · rw [if_pos c23] at H
            have c23b0 : (a0 == 74) = true := beq_iff_eq.mpr c23
            have c23b1 : (a0 != 74) = false := bne_eq_false_iff_eq.mpr c23
            clear c23
            replace H := Option.bind_eq_some_iff.mp H
            obtain ⟨t183, A240, H⟩ := H
            replace H : ((corralref1_Place.f k (a1 / 4096) 12 8).bind fun t184 => ((corralref1_Place.f k (a1 / 2048) 20 1).bind fun t185 => ((corralref1_Place.f k (a1 / 2) 21 10).bind fun t186 => ((corralref1_Imm.f k a0 (Go.bits .or .u32 (Go.bits .or .u32 (Go.bits .or .u32 t183 t184) t185) t186)).bind fun t187 => (if t187 = a1 then (some (Go.bits .or .u32 (Go.bits .or .u32 (Go.bits .or .u32 t183 t184) t185) t186, true)) else (some (0, false))))))) = some (r1, r2) := H
            have A24 := Aside0.mk A240
            clear A240
            replace H := Option.bind_eq_some_iff.mp H
            obtain ⟨t184, A250, H⟩ := H
            replace H : ((corralref1_Place.f k (a1 / 2048) 20 1).bind fun t185 => ((corralref1_Place.f k (a1 / 2) 21 10).bind fun t186 => ((corralref1_Imm.f k a0 (Go.bits .or .u32 (Go.bits .or .u32 (Go.bits .or .u32 t183 t184) t185) t186)).bind fun t187 => (if t187 = a1 then (some (Go.bits .or .u32 (Go.bits .or .u32 (Go.bits .or .u32 t183 t184) t185) t186, true)) else (some (0, false)))))) = some (r1, r2) := H
            have A25 := Aside0.mk A250
            clear A250
            replace H := Option.bind_eq_some_iff.mp H
            obtain ⟨t185, A260, H⟩ := H
            replace H : ((corralref1_Place.f k (a1 / 2) 21 10).bind fun t186 => ((corralref1_Imm.f k a0 (Go.bits .or .u32 (Go.bits .or .u32 (Go.bits .or .u32 t183 t184) t185) t186)).bind fun t187 => (if t187 = a1 then (some (Go.bits .or .u32 (Go.bits .or .u32 (Go.bits .or .u32 t183 t184) t185) t186, true)) else (some (0, false))))) = some (r1, r2) := H
            have A26 := Aside0.mk A260
            clear A260
            replace H := Option.bind_eq_some_iff.mp H
            obtain ⟨t186, A270, H⟩ := H
            replace H : ((corralref1_Imm.f k a0 (Go.bits .or .u32 (Go.bits .or .u32 (Go.bits .or .u32 t183 t184) t185) t186)).bind fun t187 => (if t187 = a1 then (some (Go.bits .or .u32 (Go.bits .or .u32 (Go.bits .or .u32 t183 t184) t185) t186, true)) else (some (0, false)))) = some (r1, r2) := H
            have A27 := Aside0.mk A270
            clear A270
            replace H := Option.bind_eq_some_iff.mp H
            obtain ⟨t187, A280, H⟩ := H
            replace H : (if t187 = a1 then (some (Go.bits .or .u32 (Go.bits .or .u32 (Go.bits .or .u32 t183 t184) t185) t186, true)) else (some (0, false))) = some (r1, r2) := H
            have A28 := Aside0.mk A280
            clear A280
            by_cases c29 : t187 = a1
            · rw [if_pos c29] at H
              have c29b0 : (t187 == a1) = true := beq_iff_eq.mpr c29
              have c29b1 : (t187 != a1) = false := bne_eq_false_iff_eq.mpr c29
              clear c29
              simp only [Option.some.injEq, Prod.mk.injEq] at H
              obtain ⟨rfl, rfl⟩ := H
              go_enter Try.func18, Try.ntmps18
              go_wp2_with (first | ((with_reducible refine gate_callee (f := 45) rfl ?_); refine goesL_ (some 46) rfl rfl Try.func45 (by kernel_rfl) rfl #[.int .u32 (a1 / 1048576), .int .i64 31, .int .i64 1] rfl (by (try simp only [List.map_toArray, List.map_cons, List.map_nil]); first | done | rfl | (simp only [List.length_drop, List.length_take]; rfl)) ?_; (with_reducible refine (corralref1_Place.calls k (a1 / 1048576) 31 1 t183 _ A24.out).mono ?_); rintro e w' ⟨rfl, ⟨nd, rfl⟩⟩; refine ⟨_, rfl, ?_⟩) | ((with_reducible refine gate_callee (f := 45) rfl ?_); refine goesL_ (some 49) rfl rfl Try.func45 (by kernel_rfl) rfl #[.int .u32 (a1 / 4096), .int .i64 12, .int .i64 8] rfl (by (try simp only [List.map_toArray, List.map_cons, List.map_nil]); first | done | rfl | (simp only [List.length_drop, List.length_take]; rfl)) ?_; (with_reducible refine (corralref1_Place.calls k (a1 / 4096) 12 8 t184 _ A25.out).mono ?_); rintro e w' ⟨rfl, ⟨nd, rfl⟩⟩; refine ⟨_, rfl, ?_⟩) | ((with_reducible refine gate_callee (f := 45) rfl ?_); refine goesL_ (some 53) rfl rfl Try.func45 (by kernel_rfl) rfl #[.int .u32 (a1 / 2048), .int .i64 20, .int .i64 1] rfl (by (try simp only [List.map_toArray, List.map_cons, List.map_nil]); first | done | rfl | (simp only [List.length_drop, List.length_take]; rfl)) ?_; (with_reducible refine (corralref1_Place.calls k (a1 / 2048) 20 1 t185 _ A26.out).mono ?_); rintro e w' ⟨rfl, ⟨nd, rfl⟩⟩; refine ⟨_, rfl, ?_⟩) | ((with_reducible refine gate_callee (f := 45) rfl ?_); refine goesL_ (some 57) rfl rfl Try.func45 (by kernel_rfl) rfl #[.int .u32 (a1 / 2), .int .i64 21, .int .i64 10] rfl (by (try simp only [List.map_toArray, List.map_cons, List.map_nil]); first | done | rfl | (simp only [List.length_drop, List.length_take]; rfl)) ?_; (with_reducible refine (corralref1_Place.calls k (a1 / 2) 21 10 t186 _ A27.out).mono ?_); rintro e w' ⟨rfl, ⟨nd, rfl⟩⟩; refine ⟨_, rfl, ?_⟩) | ((with_reducible refine gate_callee (f := 19) rfl ?_); refine goesL_ (some 61) rfl rfl Try.func19 (by kernel_rfl) rfl #[.int .u8 a0, .int .u32 (Go.bits .or .u32 (Go.bits .or .u32 (Go.bits .or .u32 t183 t184) t185) t186)] rfl (by (try simp only [List.map_toArray, List.map_cons, List.map_nil]); first | done | rfl | (simp only [List.length_drop, List.length_take]; rfl)) ?_; (with_reducible refine (corralref1_Imm.calls k a0 (Go.bits .or .u32 (Go.bits .or .u32 (Go.bits .or .u32 t183 t184) t185) t186) t187 _ A28.out).mono ?_); rintro e w' ⟨rfl, ⟨nd, rfl⟩⟩; refine ⟨_, rfl, ?_⟩))
              go_ret2
              exact ⟨by first | rfl | (simp; done) | (simp [*]; done), by repeat (first | exact Drawn0.refl _ | apply Drawn0.step)⟩
            · rw [if_neg c29] at H
              have c29b0 : (t187 == a1) = false := beq_eq_false_iff_ne.mpr c29
              have c29b1 : (t187 != a1) = true := bne_iff_ne.mpr c29
              simp only [Option.some.injEq, Prod.mk.injEq] at H
              obtain ⟨rfl, rfl⟩ := H
              go_enter Try.func18, Try.ntmps18
              go_wp2_with (first | ((with_reducible refine gate_callee (f := 45) rfl ?_); refine goesL_ (some 46) rfl rfl Try.func45 (by kernel_rfl) rfl #[.int .u32 (a1 / 1048576), .int .i64 31, .int .i64 1] rfl (by (try simp only [List.map_toArray, List.map_cons, List.map_nil]); first | done | rfl | (simp only [List.length_drop, List.length_take]; rfl)) ?_; (with_reducible refine (corralref1_Place.calls k (a1 / 1048576) 31 1 t183 _ A24.out).mono ?_); rintro e w' ⟨rfl, ⟨nd, rfl⟩⟩; refine ⟨_, rfl, ?_⟩) | ((with_reducible refine gate_callee (f := 45) rfl ?_); refine goesL_ (some 49) rfl rfl Try.func45 (by kernel_rfl) rfl #[.int .u32 (a1 / 4096), .int .i64 12, .int .i64 8] rfl (by (try simp only [List.map_toArray, List.map_cons, List.map_nil]); first | done | rfl | (simp only [List.length_drop, List.length_take]; rfl)) ?_; (with_reducible refine (corralref1_Place.calls k (a1 / 4096) 12 8 t184 _ A25.out).mono ?_); rintro e w' ⟨rfl, ⟨nd, rfl⟩⟩; refine ⟨_, rfl, ?_⟩) | ((with_reducible refine gate_callee (f := 45) rfl ?_); refine goesL_ (some 53) rfl rfl Try.func45 (by kernel_rfl) rfl #[.int .u32 (a1 / 2048), .int .i64 20, .int .i64 1] rfl (by (try simp only [List.map_toArray, List.map_cons, List.map_nil]); first | done | rfl | (simp only [List.length_drop, List.length_take]; rfl)) ?_; (with_reducible refine (corralref1_Place.calls k (a1 / 2048) 20 1 t185 _ A26.out).mono ?_); rintro e w' ⟨rfl, ⟨nd, rfl⟩⟩; refine ⟨_, rfl, ?_⟩) | ((with_reducible refine gate_callee (f := 45) rfl ?_); refine goesL_ (some 57) rfl rfl Try.func45 (by kernel_rfl) rfl #[.int .u32 (a1 / 2), .int .i64 21, .int .i64 10] rfl (by (try simp only [List.map_toArray, List.map_cons, List.map_nil]); first | done | rfl | (simp only [List.length_drop, List.length_take]; rfl)) ?_; (with_reducible refine (corralref1_Place.calls k (a1 / 2) 21 10 t186 _ A27.out).mono ?_); rintro e w' ⟨rfl, ⟨nd, rfl⟩⟩; refine ⟨_, rfl, ?_⟩) | ((with_reducible refine gate_callee (f := 19) rfl ?_); refine goesL_ (some 61) rfl rfl Try.func19 (by kernel_rfl) rfl #[.int .u8 a0, .int .u32 (Go.bits .or .u32 (Go.bits .or .u32 (Go.bits .or .u32 t183 t184) t185) t186)] rfl (by (try simp only [List.map_toArray, List.map_cons, List.map_nil]); first | done | rfl | (simp only [List.length_drop, List.length_take]; rfl)) ?_; (with_reducible refine (corralref1_Imm.calls k a0 (Go.bits .or .u32 (Go.bits .or .u32 (Go.bits .or .u32 t183 t184) t185) t186) t187 _ A28.out).mono ?_); rintro e w' ⟨rfl, ⟨nd, rfl⟩⟩; refine ⟨_, rfl, ?_⟩))
              go_ret2
              exact ⟨by first | rfl | (simp; done) | (simp [*]; done), by repeat (first | exact Drawn0.refl _ | apply Drawn0.step)⟩
          · rw [if_neg c23] at H
            have c23b0 : (a0 == 74) = false := beq_eq_false_iff_ne.mpr c23
            have c23b1 : (a0 != 74) = true := bne_iff_ne.mpr c23
            simp only [Option.some.injEq, Prod.mk.injEq] at H
            obtain ⟨rfl, rfl⟩ := H
            go_enter Try.func18, Try.ntmps18
            go_wp2
            go_ret2
            exact ⟨by first | rfl | (simp; done) | (simp [*]; done), by repeat (first | exact Drawn0.refl _ | apply Drawn0.step)⟩

end Go.Proofs.Ytcaohimipkoapaa.QEncSays
