-- Laid by a program of this session (wip/tpl/mine.sh), out of the program's form in Lean: Lean checks it.
import Derived.Test.YthpaieglgjjbiaaQWordSignsx0
import Derived.Test.YthpaieglgjjbiaaQWordSignsx1
namespace Go.Proofs.Ythpaieglgjjbiaa.QWordSigns
open Go.RowKit Go.Proofs.YthpaieglgjjbiaaW.PrintWords Go.Proofs.YthpaieglgjjbiaaW.PrintLast Go.Proofs.YthpaieglgjjbiaaW.PrintMore
attribute [local go_sem] max2_int min2_int max_two min_two max_three min_three max_four min_four   -- for this text's walks alone
set_option linter.unusedVariables false
set_option linter.unusedSimpArgs false

/-! ### word_Less: function 28 -/
def word_Less.f (a0 : Int) (a1 : Int) (a2 : Bool) : Option (Bool) := if a2 = true then (some (decide ((wrap32 (a0)) < (wrap32 (a1))))) else (some (decide (a0 < a1)))
set_option maxHeartbeats 8000000 in
set_option maxRecDepth 100000 in
theorem word_Less.calls (a0 : Int) (a1 : Int) (a2 : Bool) (r : Bool) (w : World) (h : word_Less.f a0 a1 a2 = some r) :
    Calls Try.prog 28 #[.int .u32 a0, .int .u32 a1, .bool a2] w fun e w' => e = .returned (.bool r) ∧ Drawn0 w w' := by
  have H : (if a2 = true then (some (decide ((wrap32 (a0)) < (wrap32 (a1))))) else (some (decide (a0 < a1)))) = some r := h
  clear h
  by_cases c4 : a2 = true
  · subst c4
    have H1 : (some (decide ((wrap32 (a0)) < (wrap32 (a1))))) = some r := by rw [if_pos rfl] at H; exact H
    clear H
    have H := H1
    clear H1
    obtain rfl := Option.some.inj H
    go_enter Try.func28, Try.ntmps28
    go_wp2
    go_ret
    exact ⟨by first | rfl | (simp; done) | (simp [*]; done), by repeat (first | exact Drawn0.refl _ | apply Drawn0.step)⟩
  · replace c4 := Bool.eq_false_iff.mpr c4
    subst c4
    have H1 : (some (decide (a0 < a1))) = some r := by rw [if_neg (show ¬ (false = true) by decide)] at H; exact H
    clear H
    have H := H1
    clear H1
    obtain rfl := Option.some.inj H
    go_enter Try.func28, Try.ntmps28
    go_wp2
    go_ret
    exact ⟨by first | rfl | (simp; done) | (simp [*]; done), by repeat (first | exact Drawn0.refl _ | apply Drawn0.step)⟩

/-! ### corrallaw1_WordSigns: function 9 -/
def corrallaw1_WordSigns.l0 : Nat → Int → Int → Int → Bool → Int → Int → Int → Option (Bool)
  | 0, _, _, _, _, _, _, _ => none
  | k + 1, x0, x1, x2, x7, x8, x9, x10 => if x10 < 32 then ((word_Bits.f x8 x10 1).bind fun t117 => (if t117 = x9 then (corrallaw1_WordSigns.l0 k x0 x1 x2 x7 x8 x9 (wrap64 (x10 + 1))) else (some false))) else (if x7 = true then ((word_Sign.f x8 x2).bind fun t118 => (if t118 = x8 then ((word_Bits.f x8 0 x2).bind fun t119 => ((word_Bits.f x0 0 x2).bind fun t120 => (if t119 = t120 then ((word_Less.f x0 x1 true).bind fun t121 => ((word_Less.f (Go.bits .xor .u32 x0 2147483648) (Go.bits .xor .u32 x1 2147483648) false).bind fun t122 => (if (t121 == t122) = true then ((word_Right.f x0 (Go.bits .and .i64 x2 15) true).bind fun t123 => ((word_Right.f (Go.bits .xor .u32 x0 2147483648) (Go.bits .and .i64 x2 15) false).bind fun t124 => ((word_Right.f 2147483648 (Go.bits .and .i64 x2 15) false).bind fun t125 => (if t123 = ((t124 - t125) % 4294967296) then ((word_Left.f x0 (Go.bits .and .i64 x2 15)).bind fun t126 => (if 0 ≤ (IntKind.u64.wrap (Go.bits .and .i64 x2 15)) then (some (t126 == ((x0 * (shl .u32 1 (IntKind.u64.wrap (Go.bits .and .i64 x2 15)))) % 4294967296))) else (none))) else (some false))))) else (some false)))) else (some false)))) else (some false))) else (some false))
def corrallaw1_WordSigns.f (k : Nat) (a0 : Int) (a1 : Int) (a2 : Int) : Option (Bool) := (corrallaw1_first.f k).bind fun t114 => (if t114 = true then ((word_Sign.f a0 (wrap64 ((Go.bits .and .i64 a2 31) + 1))).bind fun t115 => ((word_Bits.f t115 (wrap64 ((wrap64 ((Go.bits .and .i64 a2 31) + 1)) - 1)) 1).bind fun t116 => (corrallaw1_WordSigns.l0 k a0 a1 (wrap64 ((Go.bits .and .i64 a2 31) + 1)) t114 t115 t116 (wrap64 ((Go.bits .and .i64 a2 31) + 1))))) else (some false))
theorem corrallaw1_WordSigns.mono_l : ∀ k, (∀ y0 y1 y2 y3 y4 y5 y6, LeO (corrallaw1_WordSigns.l0 k y0 y1 y2 y3 y4 y5 y6) (corrallaw1_WordSigns.l0 (k + 1) y0 y1 y2 y3 y4 y5 y6))
  | 0 => fun _ _ _ _ _ _ _ r h => by simp [corrallaw1_WordSigns.l0] at h
  | k + 1 => by
    have ih0 := corrallaw1_WordSigns.mono_l k
    · intro y0 y1 y2 y3 y4 y5 y6
      unfold corrallaw1_WordSigns.l0
      repeat' first
      | (with_reducible exact ih0 _ _ _ _ _ _ _)
      | (with_reducible exact corrallaw1_first.mono _)
      | (with_reducible exact LeO.refl _)
      | (with_reducible exact LeO.none _)
      | (with_reducible refine LeO.ite ?_ ?_)
      | (with_reducible refine LeO.bind ?_ (fun _ => ?_))
      | exact ih0 _ _ _ _ _ _ _
      | exact corrallaw1_first.mono _
      | exact LeO.none _
      | refine LeO.ite ?_ ?_
      | refine LeO.bind ?_ (fun _ => ?_)
theorem corrallaw1_WordSigns.mono : ∀ a0 a1 a2 k, LeO (corrallaw1_WordSigns.f k a0 a1 a2) (corrallaw1_WordSigns.f (k + 1) a0 a1 a2) := by
  intro a0 a1 a2 k
  have ih0 := corrallaw1_WordSigns.mono_l k
  unfold corrallaw1_WordSigns.f
  repeat' first
      | (with_reducible exact ih0 _ _ _ _ _ _ _)
      | (with_reducible exact corrallaw1_first.mono _)
      | (with_reducible exact LeO.refl _)
      | (with_reducible exact LeO.none _)
      | (with_reducible refine LeO.ite ?_ ?_)
      | (with_reducible refine LeO.bind ?_ (fun _ => ?_))
      | exact ih0 _ _ _ _ _ _ _
      | exact corrallaw1_first.mono _
      | exact LeO.none _
      | refine LeO.ite ?_ ?_
      | refine LeO.bind ?_ (fun _ => ?_)
set_option maxHeartbeats 8000000 in
set_option maxRecDepth 100000 in
theorem corrallaw1_WordSigns.calls (k : Nat) (a0 : Int) (a1 : Int) (a2 : Int) (r : Bool) (w : World) (h : corrallaw1_WordSigns.f k a0 a1 a2 = some r) (hr0 : r = true) :
    Calls Try.prog 9 #[.int .u32 a0, .int .u32 a1, .int .i64 a2] w fun e w' => e = .returned (.bool r) ∧ Below w.heap.size w w' := by
  have HB := Aside0.mk (Below.refl w.heap.size w)
  have H : ((corrallaw1_first.f k).bind fun t114 => (if t114 = true then ((word_Sign.f a0 (wrap64 ((Go.bits .and .i64 a2 31) + 1))).bind fun t115 => ((word_Bits.f t115 (wrap64 ((wrap64 ((Go.bits .and .i64 a2 31) + 1)) - 1)) 1).bind fun t116 => (corrallaw1_WordSigns.l0 k a0 a1 (wrap64 ((Go.bits .and .i64 a2 31) + 1)) t114 t115 t116 (wrap64 ((Go.bits .and .i64 a2 31) + 1))))) else (some false))) = some r := h
  clear h
  have HRT := Aside0.mk hr0
  clear hr0
  replace H := Option.bind_eq_some_iff.mp H
  obtain ⟨t114, A40, H⟩ := H
  replace H : (if t114 = true then ((word_Sign.f a0 (wrap64 ((Go.bits .and .i64 a2 31) + 1))).bind fun t115 => ((word_Bits.f t115 (wrap64 ((wrap64 ((Go.bits .and .i64 a2 31) + 1)) - 1)) 1).bind fun t116 => (corrallaw1_WordSigns.l0 k a0 a1 (wrap64 ((Go.bits .and .i64 a2 31) + 1)) t114 t115 t116 (wrap64 ((Go.bits .and .i64 a2 31) + 1))))) else (some false)) = some r := H
  have A4 := Aside0.mk A40
  clear A40
  by_cases c5 : t114 = true
  · subst c5
    have H1 : ((word_Sign.f a0 (wrap64 ((Go.bits .and .i64 a2 31) + 1))).bind fun t115 => ((word_Bits.f t115 (wrap64 ((wrap64 ((Go.bits .and .i64 a2 31) + 1)) - 1)) 1).bind fun t116 => (corrallaw1_WordSigns.l0 k a0 a1 (wrap64 ((Go.bits .and .i64 a2 31) + 1)) true t115 t116 (wrap64 ((Go.bits .and .i64 a2 31) + 1))))) = some r := by rw [if_pos rfl] at H; exact H
    clear H
    have H := H1
    clear H1
    replace H := Option.bind_eq_some_iff.mp H
    obtain ⟨t115, A60, H⟩ := H
    replace H : ((word_Bits.f t115 (wrap64 ((wrap64 ((Go.bits .and .i64 a2 31) + 1)) - 1)) 1).bind fun t116 => (corrallaw1_WordSigns.l0 k a0 a1 (wrap64 ((Go.bits .and .i64 a2 31) + 1)) true t115 t116 (wrap64 ((Go.bits .and .i64 a2 31) + 1)))) = some r := H
    have A6 := Aside0.mk A60
    clear A60
    replace H := Option.bind_eq_some_iff.mp H
    obtain ⟨t116, A70, H⟩ := H
    replace H : (corrallaw1_WordSigns.l0 k a0 a1 (wrap64 ((Go.bits .and .i64 a2 31) + 1)) true t115 t116 (wrap64 ((Go.bits .and .i64 a2 31) + 1))) = some r := H
    have A7 := Aside0.mk A70
    clear A70
    have H' := Aside0.mk H
    clear H
    go_enter Try.func9, Try.ntmps9
    go_wp2_with (first | ((with_reducible refine gate_callee (f := 20) rfl ?_); refine goesL_ (some 13) rfl rfl Try.func20 (by kernel_rfl) rfl #[] rfl (by (try simp only [List.map_toArray, List.map_cons, List.map_nil]); first | done | rfl | (simp only [List.length_drop, List.length_take]; rfl)) ?_; (with_reducible refine (corrallaw1_first.calls k  true _ A4.out).mono ?_); rintro e w8 ⟨rfl, hb⟩; refine ⟨_, rfl, ?_⟩; have n0_ := Aside0.mk (below_step (by repeat (first | (with_reducible first | exact HB.out | apply below_alloc | apply pw_below_drewN | apply below_drew1) | exact HB.out)) hb); clear HB; have HB := n0_; clear n0_; (try clear hb); (try clear hb2); (try clear hk); (try clear hi)) | ((with_reducible refine gate_callee (f := 30) rfl ?_); refine goesL_ (some 21) rfl rfl Try.func30 (by kernel_rfl) rfl #[.int .u32 a0, .int .i64 (wrap64 ((Go.bits .and .i64 a2 31) + 1))] rfl (by (try simp only [List.map_toArray, List.map_cons, List.map_nil]); first | done | rfl | (simp only [List.length_drop, List.length_take]; rfl)) ?_; (with_reducible refine (word_Sign.calls a0 (wrap64 ((Go.bits .and .i64 a2 31) + 1)) t115 _ A6.out).mono ?_); rintro e w' ⟨rfl, ⟨nd, rfl⟩⟩; refine ⟨_, rfl, ?_⟩) | ((with_reducible refine gate_callee (f := 23) rfl ?_); refine goesL_ (some 25) rfl rfl Try.func23 (by kernel_rfl) rfl #[.int .u32 t115, .int .i64 (wrap64 ((wrap64 ((Go.bits .and .i64 a2 31) + 1)) - 1)), .int .i64 1] rfl (by (try simp only [List.map_toArray, List.map_cons, List.map_nil]); first | done | rfl | (simp only [List.length_drop, List.length_take]; rfl)) ?_; (with_reducible refine (word_Bits.calls t115 (wrap64 ((wrap64 ((Go.bits .and .i64 a2 31) + 1)) - 1)) 1 t116 _ A7.out).mono ?_); rintro e w9 ⟨rfl, hb⟩; refine ⟨_, rfl, ?_⟩; have n0_ := Aside0.mk (below_step (by repeat (first | (with_reducible first | exact HB.out | apply below_alloc | apply pw_below_drewN | apply below_drew1) | exact HB.out)) hb); clear HB; have HB := n0_; clear n0_; (try clear hb); (try clear hb2); (try clear hk); (try clear hi)))
    go_loopg [10] k (fun kq v10 w' => ∃ (x10_1 : Int), v10 = .int .i64 x10_1 ∧ Aside0 (corrallaw1_WordSigns.l0 kq a0 a1 (wrap64 ((Go.bits .and .i64 a2 31) + 1)) true t115 t116 x10_1 = some r) ∧ Aside0 (kq ≤ k) ∧ Aside0 (Below w.heap.size w w'))
    case atStart => exact ⟨(wrap64 ((Go.bits .and .i64 a2 31) + 1)), (by first | rfl | (simp; done) | (simp [*]; done)), H', ⟨Nat.le_refl _⟩, ⟨by repeat (first | (with_reducible first | exact HB.out | apply below_alloc | apply pw_below_drewN | apply below_drew1) | exact HB.out)⟩⟩
    case round =>
      clear H'
      try clear c2
      try clear p2
      try clear c3
      try clear c5
      try clear p6
      try clear c9
      obtain ⟨x10_1, rfl, HA, HK1, HB⟩ := hrel
      cases gk with
      | zero => exact absurd HA.out (by simp [corrallaw1_WordSigns.l0])
      | succ k1 =>
        have H := HA.out
        clear HA
        simp only [corrallaw1_WordSigns.l0] at H
        by_cases c10 : x10_1 < 32
        · rw [if_pos c10] at H
          have c10b0 : decide (x10_1 < 32) = true := decide_eq_true c10
          clear c10
          replace H := Option.bind_eq_some_iff.mp H
          obtain ⟨t117, A110, H⟩ := H
          replace H : (if t117 = t116 then (corrallaw1_WordSigns.l0 k1 a0 a1 (wrap64 ((Go.bits .and .i64 a2 31) + 1)) true t115 t116 (wrap64 (x10_1 + 1))) else (some false)) = some r := H
          have A11 := Aside0.mk A110
          clear A110
          by_cases c12 : t117 = t116
          · rw [if_pos c12] at H
            have c12b0 : (t117 == t116) = true := beq_iff_eq.mpr c12
            have c12b1 : (t117 != t116) = false := bne_eq_false_iff_eq.mpr c12
            clear c12
            have H' := Aside0.mk H
            clear H
            go_wp2_with (first | ((with_reducible refine gate_callee (f := 23) rfl ?_); refine goesL_ (some 33) rfl rfl Try.func23 (by kernel_rfl) rfl #[.int .u32 t115, .int .i64 x10_1, .int .i64 1] rfl (by (try simp only [List.map_toArray, List.map_cons, List.map_nil]); first | done | rfl | (simp only [List.length_drop, List.length_take]; rfl)) ?_; (with_reducible refine (word_Bits.calls t115 x10_1 1 t117 _ A11.out).mono ?_); rintro e w13 ⟨rfl, hb⟩; refine ⟨_, rfl, ?_⟩; have n0_ := Aside0.mk (below_step (by repeat (first | (with_reducible first | exact HB.out | apply below_alloc | apply pw_below_drewN | apply below_drew1) | exact HB.out)) hb); clear HB; have HB := n0_; clear n0_; (try clear hb); (try clear hb2); (try clear hk); (try clear hi)))
            go_roundg k1
            case measure => have := HK1.out; omega
            case rel => exact ⟨(wrap64 (x10_1 + 1)), (by first | rfl | (simp; done) | (simp [*]; done)), H', ⟨by have := HK1.out; omega⟩, ⟨by repeat (first | (with_reducible first | exact HB.out | apply below_alloc | apply pw_below_drewN | apply below_drew1) | exact HB.out)⟩⟩
          · rw [if_neg c12] at H
            have c12b0 : (t117 == t116) = false := beq_eq_false_iff_ne.mpr c12
            have c12b1 : (t117 != t116) = true := bne_iff_ne.mpr c12
            exact absurd (Option.some.inj H) (by rw [HRT.out]; decide)
        · rw [if_neg c10] at H
          have c10b0 : decide (x10_1 < 32) = false := decide_eq_false c10
          clear c10
          replace H : ((word_Sign.f t115 (wrap64 ((Go.bits .and .i64 a2 31) + 1))).bind fun t118 => (if t118 = t115 then ((word_Bits.f t115 0 (wrap64 ((Go.bits .and .i64 a2 31) + 1))).bind fun t119 => ((word_Bits.f a0 0 (wrap64 ((Go.bits .and .i64 a2 31) + 1))).bind fun t120 => (if t119 = t120 then ((word_Less.f a0 a1 true).bind fun t121 => ((word_Less.f (Go.bits .xor .u32 a0 2147483648) (Go.bits .xor .u32 a1 2147483648) false).bind fun t122 => (if (t121 == t122) = true then ((word_Right.f a0 (Go.bits .and .i64 (wrap64 ((Go.bits .and .i64 a2 31) + 1)) 15) true).bind fun t123 => ((word_Right.f (Go.bits .xor .u32 a0 2147483648) (Go.bits .and .i64 (wrap64 ((Go.bits .and .i64 a2 31) + 1)) 15) false).bind fun t124 => ((word_Right.f 2147483648 (Go.bits .and .i64 (wrap64 ((Go.bits .and .i64 a2 31) + 1)) 15) false).bind fun t125 => (if t123 = ((t124 - t125) % 4294967296) then ((word_Left.f a0 (Go.bits .and .i64 (wrap64 ((Go.bits .and .i64 a2 31) + 1)) 15)).bind fun t126 => (if 0 ≤ (IntKind.u64.wrap (Go.bits .and .i64 (wrap64 ((Go.bits .and .i64 a2 31) + 1)) 15)) then (some (t126 == ((a0 * (shl .u32 1 (IntKind.u64.wrap (Go.bits .and .i64 (wrap64 ((Go.bits .and .i64 a2 31) + 1)) 15)))) % 4294967296))) else (none))) else (some false))))) else (some false)))) else (some false)))) else (some false))) = some r := by first | (rw [if_pos rfl] at H; exact H) | (rw [if_pos trivial] at H; exact H)
          replace H := Option.bind_eq_some_iff.mp H
          obtain ⟨t118, A140, H⟩ := H
          replace H : (if t118 = t115 then ((word_Bits.f t115 0 (wrap64 ((Go.bits .and .i64 a2 31) + 1))).bind fun t119 => ((word_Bits.f a0 0 (wrap64 ((Go.bits .and .i64 a2 31) + 1))).bind fun t120 => (if t119 = t120 then ((word_Less.f a0 a1 true).bind fun t121 => ((word_Less.f (Go.bits .xor .u32 a0 2147483648) (Go.bits .xor .u32 a1 2147483648) false).bind fun t122 => (if (t121 == t122) = true then ((word_Right.f a0 (Go.bits .and .i64 (wrap64 ((Go.bits .and .i64 a2 31) + 1)) 15) true).bind fun t123 => ((word_Right.f (Go.bits .xor .u32 a0 2147483648) (Go.bits .and .i64 (wrap64 ((Go.bits .and .i64 a2 31) + 1)) 15) false).bind fun t124 => ((word_Right.f 2147483648 (Go.bits .and .i64 (wrap64 ((Go.bits .and .i64 a2 31) + 1)) 15) false).bind fun t125 => (if t123 = ((t124 - t125) % 4294967296) then ((word_Left.f a0 (Go.bits .and .i64 (wrap64 ((Go.bits .and .i64 a2 31) + 1)) 15)).bind fun t126 => (if 0 ≤ (IntKind.u64.wrap (Go.bits .and .i64 (wrap64 ((Go.bits .and .i64 a2 31) + 1)) 15)) then (some (t126 == ((a0 * (shl .u32 1 (IntKind.u64.wrap (Go.bits .and .i64 (wrap64 ((Go.bits .and .i64 a2 31) + 1)) 15)))) % 4294967296))) else (none))) else (some false))))) else (some false)))) else (some false)))) else (some false)) = some r := H
          have A14 := Aside0.mk A140
          clear A140
          by_cases c15 : t118 = t115
          · rw [if_pos c15] at H
            have c15b0 : (t118 == t115) = true := beq_iff_eq.mpr c15
            have c15b1 : (t118 != t115) = false := bne_eq_false_iff_eq.mpr c15
            clear c15
            replace H := Option.bind_eq_some_iff.mp H
            obtain ⟨t119, A160, H⟩ := H
            replace H : ((word_Bits.f a0 0 (wrap64 ((Go.bits .and .i64 a2 31) + 1))).bind fun t120 => (if t119 = t120 then ((word_Less.f a0 a1 true).bind fun t121 => ((word_Less.f (Go.bits .xor .u32 a0 2147483648) (Go.bits .xor .u32 a1 2147483648) false).bind fun t122 => (if (t121 == t122) = true then ((word_Right.f a0 (Go.bits .and .i64 (wrap64 ((Go.bits .and .i64 a2 31) + 1)) 15) true).bind fun t123 => ((word_Right.f (Go.bits .xor .u32 a0 2147483648) (Go.bits .and .i64 (wrap64 ((Go.bits .and .i64 a2 31) + 1)) 15) false).bind fun t124 => ((word_Right.f 2147483648 (Go.bits .and .i64 (wrap64 ((Go.bits .and .i64 a2 31) + 1)) 15) false).bind fun t125 => (if t123 = ((t124 - t125) % 4294967296) then ((word_Left.f a0 (Go.bits .and .i64 (wrap64 ((Go.bits .and .i64 a2 31) + 1)) 15)).bind fun t126 => (if 0 ≤ (IntKind.u64.wrap (Go.bits .and .i64 (wrap64 ((Go.bits .and .i64 a2 31) + 1)) 15)) then (some (t126 == ((a0 * (shl .u32 1 (IntKind.u64.wrap (Go.bits .and .i64 (wrap64 ((Go.bits .and .i64 a2 31) + 1)) 15)))) % 4294967296))) else (none))) else (some false))))) else (some false)))) else (some false))) = some r := H
            have A16 := Aside0.mk A160
            clear A160
            replace H := Option.bind_eq_some_iff.mp H
            obtain ⟨t120, A170, H⟩ := H
            replace H : (if t119 = t120 then ((word_Less.f a0 a1 true).bind fun t121 => ((word_Less.f (Go.bits .xor .u32 a0 2147483648) (Go.bits .xor .u32 a1 2147483648) false).bind fun t122 => (if (t121 == t122) = true then ((word_Right.f a0 (Go.bits .and .i64 (wrap64 ((Go.bits .and .i64 a2 31) + 1)) 15) true).bind fun t123 => ((word_Right.f (Go.bits .xor .u32 a0 2147483648) (Go.bits .and .i64 (wrap64 ((Go.bits .and .i64 a2 31) + 1)) 15) false).bind fun t124 => ((word_Right.f 2147483648 (Go.bits .and .i64 (wrap64 ((Go.bits .and .i64 a2 31) + 1)) 15) false).bind fun t125 => (if t123 = ((t124 - t125) % 4294967296) then ((word_Left.f a0 (Go.bits .and .i64 (wrap64 ((Go.bits .and .i64 a2 31) + 1)) 15)).bind fun t126 => (if 0 ≤ (IntKind.u64.wrap (Go.bits .and .i64 (wrap64 ((Go.bits .and .i64 a2 31) + 1)) 15)) then (some (t126 == ((a0 * (shl .u32 1 (IntKind.u64.wrap (Go.bits .and .i64 (wrap64 ((Go.bits .and .i64 a2 31) + 1)) 15)))) % 4294967296))) else (none))) else (some false))))) else (some false)))) else (some false)) = some r := H
            have A17 := Aside0.mk A170
            clear A170
            by_cases c18 : t119 = t120
            · rw [if_pos c18] at H
              have c18b0 : (t119 == t120) = true := beq_iff_eq.mpr c18
              have c18b1 : (t119 != t120) = false := bne_eq_false_iff_eq.mpr c18
              clear c18
              replace H := Option.bind_eq_some_iff.mp H
              obtain ⟨t121, A190, H⟩ := H
              replace H : ((word_Less.f (Go.bits .xor .u32 a0 2147483648) (Go.bits .xor .u32 a1 2147483648) false).bind fun t122 => (if (t121 == t122) = true then ((word_Right.f a0 (Go.bits .and .i64 (wrap64 ((Go.bits .and .i64 a2 31) + 1)) 15) true).bind fun t123 => ((word_Right.f (Go.bits .xor .u32 a0 2147483648) (Go.bits .and .i64 (wrap64 ((Go.bits .and .i64 a2 31) + 1)) 15) false).bind fun t124 => ((word_Right.f 2147483648 (Go.bits .and .i64 (wrap64 ((Go.bits .and .i64 a2 31) + 1)) 15) false).bind fun t125 => (if t123 = ((t124 - t125) % 4294967296) then ((word_Left.f a0 (Go.bits .and .i64 (wrap64 ((Go.bits .and .i64 a2 31) + 1)) 15)).bind fun t126 => (if 0 ≤ (IntKind.u64.wrap (Go.bits .and .i64 (wrap64 ((Go.bits .and .i64 a2 31) + 1)) 15)) then (some (t126 == ((a0 * (shl .u32 1 (IntKind.u64.wrap (Go.bits .and .i64 (wrap64 ((Go.bits .and .i64 a2 31) + 1)) 15)))) % 4294967296))) else (none))) else (some false))))) else (some false))) = some r := H
              have A19 := Aside0.mk A190
              clear A190
              replace H := Option.bind_eq_some_iff.mp H
              obtain ⟨t122, A200, H⟩ := H
              replace H : (if (t121 == t122) = true then ((word_Right.f a0 (Go.bits .and .i64 (wrap64 ((Go.bits .and .i64 a2 31) + 1)) 15) true).bind fun t123 => ((word_Right.f (Go.bits .xor .u32 a0 2147483648) (Go.bits .and .i64 (wrap64 ((Go.bits .and .i64 a2 31) + 1)) 15) false).bind fun t124 => ((word_Right.f 2147483648 (Go.bits .and .i64 (wrap64 ((Go.bits .and .i64 a2 31) + 1)) 15) false).bind fun t125 => (if t123 = ((t124 - t125) % 4294967296) then ((word_Left.f a0 (Go.bits .and .i64 (wrap64 ((Go.bits .and .i64 a2 31) + 1)) 15)).bind fun t126 => (if 0 ≤ (IntKind.u64.wrap (Go.bits .and .i64 (wrap64 ((Go.bits .and .i64 a2 31) + 1)) 15)) then (some (t126 == ((a0 * (shl .u32 1 (IntKind.u64.wrap (Go.bits .and .i64 (wrap64 ((Go.bits .and .i64 a2 31) + 1)) 15)))) % 4294967296))) else (none))) else (some false))))) else (some false)) = some r := H
              have A20 := Aside0.mk A200
              clear A200
              by_cases c21 : (t121 == t122) = true
              · rw [if_pos c21] at H
                have c21b0 : (t121 == t122) = true := c21
                (try (have c21b1 : decide (t121 = t122) = true := by simpa using c21))
                (try (have c21b2 : (t121 == t122) = true := by simpa using c21))
                clear c21
                replace H := Option.bind_eq_some_iff.mp H
                obtain ⟨t123, A220, H⟩ := H
                replace H : ((word_Right.f (Go.bits .xor .u32 a0 2147483648) (Go.bits .and .i64 (wrap64 ((Go.bits .and .i64 a2 31) + 1)) 15) false).bind fun t124 => ((word_Right.f 2147483648 (Go.bits .and .i64 (wrap64 ((Go.bits .and .i64 a2 31) + 1)) 15) false).bind fun t125 => (if t123 = ((t124 - t125) % 4294967296) then ((word_Left.f a0 (Go.bits .and .i64 (wrap64 ((Go.bits .and .i64 a2 31) + 1)) 15)).bind fun t126 => (if 0 ≤ (IntKind.u64.wrap (Go.bits .and .i64 (wrap64 ((Go.bits .and .i64 a2 31) + 1)) 15)) then (some (t126 == ((a0 * (shl .u32 1 (IntKind.u64.wrap (Go.bits .and .i64 (wrap64 ((Go.bits .and .i64 a2 31) + 1)) 15)))) % 4294967296))) else (none))) else (some false)))) = some r := H
                have A22 := Aside0.mk A220
                clear A220
                replace H := Option.bind_eq_some_iff.mp H
                obtain ⟨t124, A230, H⟩ := H
                replace H : ((word_Right.f 2147483648 (Go.bits .and .i64 (wrap64 ((Go.bits .and .i64 a2 31) + 1)) 15) false).bind fun t125 => (if t123 = ((t124 - t125) % 4294967296) then ((word_Left.f a0 (Go.bits .and .i64 (wrap64 ((Go.bits .and .i64 a2 31) + 1)) 15)).bind fun t126 => (if 0 ≤ (IntKind.u64.wrap (Go.bits .and .i64 (wrap64 ((Go.bits .and .i64 a2 31) + 1)) 15)) then (some (t126 == ((a0 * (shl .u32 1 (IntKind.u64.wrap (Go.bits .and .i64 (wrap64 ((Go.bits .and .i64 a2 31) + 1)) 15)))) % 4294967296))) else (none))) else (some false))) = some r := H
                have A23 := Aside0.mk A230
                clear A230
                replace H := Option.bind_eq_some_iff.mp H
                obtain ⟨t125, A240, H⟩ := H
                replace H : (if t123 = ((t124 - t125) % 4294967296) then ((word_Left.f a0 (Go.bits .and .i64 (wrap64 ((Go.bits .and .i64 a2 31) + 1)) 15)).bind fun t126 => (if 0 ≤ (IntKind.u64.wrap (Go.bits .and .i64 (wrap64 ((Go.bits .and .i64 a2 31) + 1)) 15)) then (some (t126 == ((a0 * (shl .u32 1 (IntKind.u64.wrap (Go.bits .and .i64 (wrap64 ((Go.bits .and .i64 a2 31) + 1)) 15)))) % 4294967296))) else (none))) else (some false)) = some r := H
                have A24 := Aside0.mk A240
                clear A240
                by_cases c25 : t123 = ((t124 - t125) % 4294967296)
                · rw [if_pos c25] at H
                  have c25b0 : (t123 == ((t124 - t125) % 4294967296)) = true := beq_iff_eq.mpr c25
                  have c25b1 : (t123 != ((t124 - t125) % 4294967296)) = false := bne_eq_false_iff_eq.mpr c25
                  clear c25
                  replace H := Option.bind_eq_some_iff.mp H
                  obtain ⟨t126, A260, H⟩ := H
                  replace H : (if 0 ≤ (IntKind.u64.wrap (Go.bits .and .i64 (wrap64 ((Go.bits .and .i64 a2 31) + 1)) 15)) then (some (t126 == ((a0 * (shl .u32 1 (IntKind.u64.wrap (Go.bits .and .i64 (wrap64 ((Go.bits .and .i64 a2 31) + 1)) 15)))) % 4294967296))) else (none)) = some r := H
                  have A26 := Aside0.mk A260
                  clear A260
                  obtain ⟨ji27, hji27⟩ : ∃ j_ : Int, (IntKind.u64.wrap (Go.bits .and .i64 (wrap64 ((Go.bits .and .i64 a2 31) + 1)) 15)) = j_ := ⟨_, rfl⟩
                  replace H : (if 0 ≤ (ji27) then (some (t126 == ((a0 * (shl .u32 1 (ji27))) % 4294967296))) else (none)) = some r := by first | (rw [hji27] at H; exact H) | (simp only [hji27] at H ⊢; exact H)
                  (try rw [hji27] at A14)
                  (try rw [hji27] at A16)
                  (try rw [hji27] at A17)
                  (try rw [hji27] at A19)
                  (try rw [hji27] at A20)
                  (try rw [hji27] at A22)
                  (try rw [hji27] at A23)
                  (try rw [hji27] at A24)
                  (try rw [hji27] at A26)
                  by_cases c28 : 0 ≤ (ji27)
                  · rw [if_pos c28] at H
                    have c28b0 := eq_true c28
                    have c28b1 : decide (0 ≤ (ji27)) = true := decide_eq_true c28
                    clear c28
                    obtain ⟨ji29, hji29⟩ : ∃ j_ : Int, (shl .u32 1 (ji27)) = j_ := ⟨_, rfl⟩
                    replace H : (some (t126 == ((a0 * (ji29)) % 4294967296))) = some r := by first | (rw [hji29] at H; exact H) | (simp only [hji29] at H ⊢; exact H)
                    (try rw [hji29] at A14)
                    (try rw [hji29] at A16)
                    (try rw [hji29] at A17)
                    (try rw [hji29] at A19)
                    (try rw [hji29] at A20)
                    (try rw [hji29] at A22)
                    (try rw [hji29] at A23)
                    (try rw [hji29] at A24)
                    (try rw [hji29] at A26)
                    have hji29_ : (IntKind.u32.wrap (1 * 2 ^ min (ji27).toNat 32)) = ji29 := hji29
                    have hji29z : (ji27) ≤ 32 → (IntKind.u32.wrap (1 * 2 ^ (ji27).toNat)) = ji29 := shl_small hji29
                    have hji29u : (IntKind.u32.wrap (2 ^ min (ji27).toNat 32)) = ji29 := by have h_ := hji29_; rw [Int.one_mul] at h_; exact h_
                    have hji29v : (ji27) ≤ 32 → (IntKind.u32.wrap (2 ^ (ji27).toNat)) = ji29 := fun hle_ => by have h_ := hji29z hle_; rw [Int.one_mul] at h_; exact h_
                    clear HRT
                    obtain rfl := Option.some.inj H
                    go_wp2_with (first | (go_at_call 30; (with_reducible refine (word_Sign.calls t115 (wrap64 ((Go.bits .and .i64 a2 31) + 1)) t118 _ A14.out).mono ?_); rintro e w' ⟨rfl, ⟨nd, rfl⟩⟩) | (go_at_call 23; (with_reducible refine (word_Bits.calls t115 0 (wrap64 ((Go.bits .and .i64 a2 31) + 1)) t119 _ A16.out).mono ?_); rintro e w30 ⟨rfl, hb⟩; have n0_ := Aside0.mk (below_step (by repeat (first | (with_reducible first | exact HB.out | apply below_alloc | apply pw_below_drewN | apply below_drew1) | exact HB.out)) hb); clear HB; have HB := n0_; clear n0_; (try clear hb); (try clear hb2); (try clear hk); (try clear hi)) | (go_at_call 23; (with_reducible refine (word_Bits.calls a0 0 (wrap64 ((Go.bits .and .i64 a2 31) + 1)) t120 _ A17.out).mono ?_); rintro e w31 ⟨rfl, hb⟩; have n0_ := Aside0.mk (below_step (by repeat (first | (with_reducible first | exact HB.out | apply below_alloc | apply pw_below_drewN | apply below_drew1) | exact HB.out)) hb); clear HB; have HB := n0_; clear n0_; (try clear hb); (try clear hb2); (try clear hk); (try clear hi)) | (go_at_call 28; (with_reducible refine (word_Less.calls a0 a1 true t121 _ A19.out).mono ?_); rintro e w' ⟨rfl, ⟨nd, rfl⟩⟩) | (go_at_call 28; (with_reducible refine (word_Less.calls (Go.bits .xor .u32 a0 2147483648) (Go.bits .xor .u32 a1 2147483648) false t122 _ A20.out).mono ?_); rintro e w' ⟨rfl, ⟨nd, rfl⟩⟩) | (go_at_call 25; (with_reducible refine (word_Right.calls a0 (Go.bits .and .i64 (wrap64 ((Go.bits .and .i64 a2 31) + 1)) 15) true t123 _ A22.out).mono ?_); rintro e w' ⟨rfl, ⟨nd, rfl⟩⟩) | (go_at_call 25; (with_reducible refine (word_Right.calls (Go.bits .xor .u32 a0 2147483648) (Go.bits .and .i64 (wrap64 ((Go.bits .and .i64 a2 31) + 1)) 15) false t124 _ A23.out).mono ?_); rintro e w' ⟨rfl, ⟨nd, rfl⟩⟩) | (go_at_call 25; (with_reducible refine (word_Right.calls 2147483648 (Go.bits .and .i64 (wrap64 ((Go.bits .and .i64 a2 31) + 1)) 15) false t125 _ A24.out).mono ?_); rintro e w' ⟨rfl, ⟨nd, rfl⟩⟩) | (go_at_call 24; (with_reducible refine (word_Left.calls a0 (Go.bits .and .i64 (wrap64 ((Go.bits .and .i64 a2 31) + 1)) 15) t126 _ A26.out).mono ?_); rintro e w' ⟨rfl, ⟨nd, rfl⟩⟩))
                    go_ret
                    exact ⟨by first | rfl | (simp [errW_none, errW_some] <;> rfl) | (simp only [← hji27, ← hji29]; first | rfl | (simp [errW_none, errW_some] <;> rfl)) | (simp [*, errW_none, errW_some] <;> rfl), by repeat (first | (with_reducible first | exact HB.out | apply below_alloc | apply pw_below_drewN | apply below_drew1) | exact HB.out)⟩
                  · rw [if_neg c28] at H
                    exact absurd H (by simp)
                · rw [if_neg c25] at H
                  have c25b0 : (t123 == ((t124 - t125) % 4294967296)) = false := beq_eq_false_iff_ne.mpr c25
                  have c25b1 : (t123 != ((t124 - t125) % 4294967296)) = true := bne_iff_ne.mpr c25
                  exact absurd (Option.some.inj H) (by rw [HRT.out]; decide)
              · rw [if_neg c21] at H
                have c21b0 : (t121 == t122) = false := by simpa using c21
                (try (have c21b1 : decide (t121 = t122) = false := by simpa using c21))
                (try (have c21b2 : (t121 == t122) = false := by simpa using c21))
                (try (have c21b3 : ¬ (t121 = t122) := by simpa using c21))
                clear c21
                exact absurd (Option.some.inj H) (by rw [HRT.out]; decide)
            · rw [if_neg c18] at H
              have c18b0 : (t119 == t120) = false := beq_eq_false_iff_ne.mpr c18
              have c18b1 : (t119 != t120) = true := bne_iff_ne.mpr c18
              exact absurd (Option.some.inj H) (by rw [HRT.out]; decide)
          · rw [if_neg c15] at H
            have c15b0 : (t118 == t115) = false := beq_eq_false_iff_ne.mpr c15
            have c15b1 : (t118 != t115) = true := bne_iff_ne.mpr c15
            exact absurd (Option.some.inj H) (by rw [HRT.out]; decide)
  · replace c5 := Bool.eq_false_iff.mpr c5
    subst c5
    have H1 : (some false) = some r := by rw [if_neg (show ¬ (false = true) by decide)] at H; exact H
    clear H
    have H := H1
    clear H1
    exact absurd (Option.some.inj H) (by rw [HRT.out]; decide)

/-- THE ONE PURE STATEMENT of corrallaw1_WordSigns: yours. -/
def corrallaw1_WordSigns.Pure : Prop := ∀ (a0 : Int) (a1 : Int) (a2 : Int), (Lit.int .u32 a0).wf = true → (Lit.int .u32 a1).wf = true → (Lit.int .i64 a2).wf = true → ∃ k, corrallaw1_WordSigns.f k a0 a1 a2 = some true
theorem corrallaw1_WordSigns.walk (P : corrallaw1_WordSigns.Pure) (a0 : Int) (a1 : Int) (a2 : Int) (w : World) (w0 : (Lit.int .u32 a0).wf = true) (w1 : (Lit.int .u32 a1).wf = true) (w2 : (Lit.int .i64 a2).wf = true) :
    Calls Try.prog 9 #[.int .u32 a0, .int .u32 a1, .int .i64 a2] w fun e w' => e = .returned (.bool true) ∧ Below w.heap.size w w' := by
  obtain ⟨k, h⟩ := P a0 a1 a2 w0 w1 w2
  refine (corrallaw1_WordSigns.calls k a0 a1 a2 true w h rfl).mono ?_
  rintro e w' ⟨rfl, hd⟩
  exact ⟨rfl, hd⟩

end Go.Proofs.Ythpaieglgjjbiaa.QWordSigns
