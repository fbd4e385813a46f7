-- Laid by a program of this session (wip/tpl/mine.sh), out of the program's form in Lean: Lean checks it.
import Derived.Test.YthpaieglgjjbiaaQWordShiftsx0
import Derived.Test.YthpaieglgjjbiaaQWordShiftsx1
namespace Go.Proofs.Ythpaieglgjjbiaa.QWordShifts
open Go.RowKit Go.Proofs.YthpaieglgjjbiaaW.PrintWords Go.Proofs.YthpaieglgjjbiaaW.PrintLast Go.Proofs.YthpaieglgjjbiaaW.PrintMore
attribute [local go_sem] max2_int min2_int max_two min_two max_three min_three max_four min_four   -- for this text's walks alone
set_option linter.unusedVariables false
set_option linter.unusedSimpArgs false

/-! ### word_Less: function 28 -/
def word_Less.f (a0 : Int) (a1 : Int) (a2 : Bool) : Option (Bool) := if a2 = true then (some (decide ((wrap32 (a0)) < (wrap32 (a1))))) else (some (decide (a0 < a1)))
set_option maxHeartbeats 8000000 in
set_option maxRecDepth 100000 in
theorem word_Less.calls (a0 : Int) (a1 : Int) (a2 : Bool) (r : Bool) (w : World) (h : word_Less.f a0 a1 a2 = some r) :
    Calls Try.prog 28 #[.int .u32 a0, .int .u32 a1, .bool a2] w fun e w' => e = .returned (.bool r) ∧ Drawn0 w w' := by
  have H : (if a2 = true then (some (decide ((wrap32 (a0)) < (wrap32 (a1))))) else (some (decide (a0 < a1)))) = some r := h
  clear h
  by_cases c4 : a2 = true
  · subst c4
    have H1 : (some (decide ((wrap32 (a0)) < (wrap32 (a1))))) = some r := by rw [if_pos rfl] at H; exact H
    clear H
    have H := H1
    clear H1
    obtain rfl := Option.some.inj H
    go_enter Try.func28, Try.ntmps28
    go_wp2
    go_ret
    exact ⟨by first | rfl | (simp; done) | (simp [*]; done), by repeat (first | exact Drawn0.refl _ | apply Drawn0.step)⟩
  · replace c4 := Bool.eq_false_iff.mpr c4
    subst c4
    have H1 : (some (decide (a0 < a1))) = some r := by rw [if_neg (show ¬ (false = true) by decide)] at H; exact H
    clear H
    have H := H1
    clear H1
    obtain rfl := Option.some.inj H
    go_enter Try.func28, Try.ntmps28
    go_wp2
    go_ret
    exact ⟨by first | rfl | (simp; done) | (simp [*]; done), by repeat (first | exact Drawn0.refl _ | apply Drawn0.step)⟩

/-! ### corrallaw1_WordShifts: function 10 -/
mutual
def corrallaw1_WordShifts.j0 : Nat → Int → Bool → Int → Bool → Option (Bool)
  | 0, _, _, _, _ => none
  | k + 1, x0, x5, x6, x37 => if x37 = true then (some false) else (if x6 > 0 then ((word_Left.f x0 x6).bind fun t121 => ((word_Right.f t121 x6 false).bind fun t122 => ((word_Bits.f x0 0 (wrap64 (32 - x6))).bind fun t123 => (if t122 = t123 then ((word_Right.f t121 x6 true).bind fun t124 => ((word_Sign.f x0 (wrap64 (32 - x6))).bind fun t125 => (corrallaw1_WordShifts.j1 k x0 x5 (t124 != t125)))) else (corrallaw1_WordShifts.j1 k x0 x5 true))))) else (corrallaw1_WordShifts.j1 k x0 x5 false))
def corrallaw1_WordShifts.j1 : Nat → Int → Bool → Bool → Option (Bool)
  | 0, _, _, _ => none
  | k + 1, x0, x5, x63 => if x63 = true then (some false) else ((word_Right.f x0 1 true).bind fun t126 => (if x5 = true then (if (((t126 + t126) + (Go.bits .and .u32 x0 1)) % 4294967296) = x0 then ((word_Less.f t126 0 true).bind fun t127 => ((word_Less.f x0 0 true).bind fun t128 => (some (t127 == t128)))) else (some false)) else (some false)))
end
def corrallaw1_WordShifts.f (k : Nat) (a0 : Int) (a1 : Int) : Option (Bool) := (corrallaw1_first.f k).bind fun t114 => (if t114 = true then ((word_Left.f a0 a1).bind fun t115 => ((word_Left.f a0 (Go.bits .and .i64 a1 31)).bind fun t116 => (if t115 = t116 then ((word_Right.f a0 a1 false).bind fun t117 => ((word_Right.f a0 (Go.bits .and .i64 a1 31) false).bind fun t118 => (if t117 = t118 then ((word_Right.f a0 a1 true).bind fun t119 => ((word_Right.f a0 (Go.bits .and .i64 a1 31) true).bind fun t120 => (corrallaw1_WordShifts.j0 k a0 t114 (Go.bits .and .i64 a1 31) (t119 != t120)))) else (corrallaw1_WordShifts.j0 k a0 t114 (Go.bits .and .i64 a1 31) true)))) else (corrallaw1_WordShifts.j0 k a0 t114 (Go.bits .and .i64 a1 31) true)))) else (some false))
theorem corrallaw1_WordShifts.mono_l : ∀ k, (∀ y0 y1 y2 y3, LeO (corrallaw1_WordShifts.j0 k y0 y1 y2 y3) (corrallaw1_WordShifts.j0 (k + 1) y0 y1 y2 y3)) ∧ (∀ y0 y1 y2, LeO (corrallaw1_WordShifts.j1 k y0 y1 y2) (corrallaw1_WordShifts.j1 (k + 1) y0 y1 y2))
  | 0 => ⟨fun _ _ _ _ r h => by simp [corrallaw1_WordShifts.j0] at h, fun _ _ _ r h => by simp [corrallaw1_WordShifts.j1] at h⟩
  | k + 1 => by
    obtain ⟨ih0, ih1⟩ := corrallaw1_WordShifts.mono_l k
    refine ⟨?_, ?_⟩
    · intro y0 y1 y2 y3
      unfold corrallaw1_WordShifts.j0
      repeat' first
      | (with_reducible exact ih0 _ _ _ _)
      | (with_reducible exact ih1 _ _ _)
      | (with_reducible exact corrallaw1_first.mono _)
      | (with_reducible exact LeO.refl _)
      | (with_reducible exact LeO.none _)
      | (with_reducible refine LeO.ite ?_ ?_)
      | (with_reducible refine LeO.bind ?_ (fun _ => ?_))
      | exact ih0 _ _ _ _
      | exact ih1 _ _ _
      | exact corrallaw1_first.mono _
      | exact LeO.none _
      | refine LeO.ite ?_ ?_
      | refine LeO.bind ?_ (fun _ => ?_)
    · intro y0 y1 y2
      unfold corrallaw1_WordShifts.j1
      repeat' first
      | (with_reducible exact ih0 _ _ _ _)
      | (with_reducible exact ih1 _ _ _)
      | (with_reducible exact corrallaw1_first.mono _)
      | (with_reducible exact LeO.refl _)
      | (with_reducible exact LeO.none _)
      | (with_reducible refine LeO.ite ?_ ?_)
      | (with_reducible refine LeO.bind ?_ (fun _ => ?_))
      | exact ih0 _ _ _ _
      | exact ih1 _ _ _
      | exact corrallaw1_first.mono _
      | exact LeO.none _
      | refine LeO.ite ?_ ?_
      | refine LeO.bind ?_ (fun _ => ?_)
theorem corrallaw1_WordShifts.mono : ∀ a0 a1 k, LeO (corrallaw1_WordShifts.f k a0 a1) (corrallaw1_WordShifts.f (k + 1) a0 a1) := by
  intro a0 a1 k
  obtain ⟨ih0, ih1⟩ := corrallaw1_WordShifts.mono_l k
  unfold corrallaw1_WordShifts.f
  repeat' first
      | (with_reducible exact ih0 _ _ _ _)
      | (with_reducible exact ih1 _ _ _)
      | (with_reducible exact corrallaw1_first.mono _)
      | (with_reducible exact LeO.refl _)
      | (with_reducible exact LeO.none _)
      | (with_reducible refine LeO.ite ?_ ?_)
      | (with_reducible refine LeO.bind ?_ (fun _ => ?_))
      | exact ih0 _ _ _ _
      | exact ih1 _ _ _
      | exact corrallaw1_first.mono _
      | exact LeO.none _
      | refine LeO.ite ?_ ?_
      | refine LeO.bind ?_ (fun _ => ?_)
set_option maxHeartbeats 8000000 in
set_option maxRecDepth 100000 in
theorem corrallaw1_WordShifts.calls (k : Nat) (a0 : Int) (a1 : Int) (r : Bool) (w : World) (h : corrallaw1_WordShifts.f k a0 a1 = some r) (hr0 : r = true) :
    Calls Try.prog 10 #[.int .u32 a0, .int .i64 a1] w fun e w' => e = .returned (.bool r) ∧ Below w.heap.size w w' := by
  have HB := Aside0.mk (Below.refl w.heap.size w)
  have H : ((corrallaw1_first.f k).bind fun t114 => (if t114 = true then ((word_Left.f a0 a1).bind fun t115 => ((word_Left.f a0 (Go.bits .and .i64 a1 31)).bind fun t116 => (if t115 = t116 then ((word_Right.f a0 a1 false).bind fun t117 => ((word_Right.f a0 (Go.bits .and .i64 a1 31) false).bind fun t118 => (if t117 = t118 then ((word_Right.f a0 a1 true).bind fun t119 => ((word_Right.f a0 (Go.bits .and .i64 a1 31) true).bind fun t120 => (corrallaw1_WordShifts.j0 k a0 t114 (Go.bits .and .i64 a1 31) (t119 != t120)))) else (corrallaw1_WordShifts.j0 k a0 t114 (Go.bits .and .i64 a1 31) true)))) else (corrallaw1_WordShifts.j0 k a0 t114 (Go.bits .and .i64 a1 31) true)))) else (some false))) = some r := h
  clear h
  have HRT := Aside0.mk hr0
  clear hr0
  replace H := Option.bind_eq_some_iff.mp H
  obtain ⟨t114, A30, H⟩ := H
  replace H : (if t114 = true then ((word_Left.f a0 a1).bind fun t115 => ((word_Left.f a0 (Go.bits .and .i64 a1 31)).bind fun t116 => (if t115 = t116 then ((word_Right.f a0 a1 false).bind fun t117 => ((word_Right.f a0 (Go.bits .and .i64 a1 31) false).bind fun t118 => (if t117 = t118 then ((word_Right.f a0 a1 true).bind fun t119 => ((word_Right.f a0 (Go.bits .and .i64 a1 31) true).bind fun t120 => (corrallaw1_WordShifts.j0 k a0 t114 (Go.bits .and .i64 a1 31) (t119 != t120)))) else (corrallaw1_WordShifts.j0 k a0 t114 (Go.bits .and .i64 a1 31) true)))) else (corrallaw1_WordShifts.j0 k a0 t114 (Go.bits .and .i64 a1 31) true)))) else (some false)) = some r := H
  have A3 := Aside0.mk A30
  clear A30
  by_cases c4 : t114 = true
  · subst c4
    have H1 : ((word_Left.f a0 a1).bind fun t115 => ((word_Left.f a0 (Go.bits .and .i64 a1 31)).bind fun t116 => (if t115 = t116 then ((word_Right.f a0 a1 false).bind fun t117 => ((word_Right.f a0 (Go.bits .and .i64 a1 31) false).bind fun t118 => (if t117 = t118 then ((word_Right.f a0 a1 true).bind fun t119 => ((word_Right.f a0 (Go.bits .and .i64 a1 31) true).bind fun t120 => (corrallaw1_WordShifts.j0 k a0 true (Go.bits .and .i64 a1 31) (t119 != t120)))) else (corrallaw1_WordShifts.j0 k a0 true (Go.bits .and .i64 a1 31) true)))) else (corrallaw1_WordShifts.j0 k a0 true (Go.bits .and .i64 a1 31) true)))) = some r := by rw [if_pos rfl] at H; exact H
    clear H
    have H := H1
    clear H1
    have HC5 := Aside0.mk H
    clear H
    go_enter Try.func10, Try.ntmps10
    go_upto_region 5 with (first | ((with_reducible refine gate_callee (f := 20) rfl ?_); refine goesL_ (some 8) rfl rfl Try.func20 (by kernel_rfl) rfl #[] rfl (by (try simp only [List.map_toArray, List.map_cons, List.map_nil]); first | done | rfl | (simp only [List.length_drop, List.length_take]; rfl)) ?_; (with_reducible refine (corrallaw1_first.calls k  true _ A3.out).mono ?_); rintro e w6 ⟨rfl, hb⟩; refine ⟨_, rfl, ?_⟩; have n0_ := Aside0.mk (below_step (by repeat (first | (with_reducible first | exact HB.out | apply below_alloc | apply pw_below_drewN | apply below_drew1) | exact HB.out)) hb); clear HB; have HB := n0_; clear n0_; (try clear hb); (try clear hb2); (try clear hk); (try clear hi)))
    (try simp only [Act.put, List.setIfInBounds_toArray, List.set_cons_zero, List.set_cons_succ])
    go_cut [37] (fun v37 wc => ∃ (kq : Nat) (x37_4 : Bool), v37 = .bool x37_4 ∧ Aside0 (corrallaw1_WordShifts.j0 kq a0 true (Go.bits .and .i64 a1 31) x37_4 = some r) ∧ Aside0 (kq ≤ k) ∧ Aside0 (Below w.heap.size w wc))
    case first =>
      have H := HC5.out
      clear HC5
      replace H := Option.bind_eq_some_iff.mp H
      obtain ⟨t115, A70, H⟩ := H
      replace H : ((word_Left.f a0 (Go.bits .and .i64 a1 31)).bind fun t116 => (if t115 = t116 then ((word_Right.f a0 a1 false).bind fun t117 => ((word_Right.f a0 (Go.bits .and .i64 a1 31) false).bind fun t118 => (if t117 = t118 then ((word_Right.f a0 a1 true).bind fun t119 => ((word_Right.f a0 (Go.bits .and .i64 a1 31) true).bind fun t120 => (corrallaw1_WordShifts.j0 k a0 true (Go.bits .and .i64 a1 31) (t119 != t120)))) else (corrallaw1_WordShifts.j0 k a0 true (Go.bits .and .i64 a1 31) true)))) else (corrallaw1_WordShifts.j0 k a0 true (Go.bits .and .i64 a1 31) true))) = some r := H
      have A7 := Aside0.mk A70
      clear A70
      replace H := Option.bind_eq_some_iff.mp H
      obtain ⟨t116, A80, H⟩ := H
      replace H : (if t115 = t116 then ((word_Right.f a0 a1 false).bind fun t117 => ((word_Right.f a0 (Go.bits .and .i64 a1 31) false).bind fun t118 => (if t117 = t118 then ((word_Right.f a0 a1 true).bind fun t119 => ((word_Right.f a0 (Go.bits .and .i64 a1 31) true).bind fun t120 => (corrallaw1_WordShifts.j0 k a0 true (Go.bits .and .i64 a1 31) (t119 != t120)))) else (corrallaw1_WordShifts.j0 k a0 true (Go.bits .and .i64 a1 31) true)))) else (corrallaw1_WordShifts.j0 k a0 true (Go.bits .and .i64 a1 31) true)) = some r := H
      have A8 := Aside0.mk A80
      clear A80
      by_cases c9 : t115 = t116
      · rw [if_pos c9] at H
        have c9b0 : (t115 == t116) = true := beq_iff_eq.mpr c9
        have c9b1 : (t115 != t116) = false := bne_eq_false_iff_eq.mpr c9
        clear c9
        (first | rw [c9b0] | (simp only [i64_w, i32_w]; rw [c9b0]) | skip)
        replace H := Option.bind_eq_some_iff.mp H
        obtain ⟨t117, A100, H⟩ := H
        replace H : ((word_Right.f a0 (Go.bits .and .i64 a1 31) false).bind fun t118 => (if t117 = t118 then ((word_Right.f a0 a1 true).bind fun t119 => ((word_Right.f a0 (Go.bits .and .i64 a1 31) true).bind fun t120 => (corrallaw1_WordShifts.j0 k a0 true (Go.bits .and .i64 a1 31) (t119 != t120)))) else (corrallaw1_WordShifts.j0 k a0 true (Go.bits .and .i64 a1 31) true))) = some r := H
        have A10 := Aside0.mk A100
        clear A100
        replace H := Option.bind_eq_some_iff.mp H
        obtain ⟨t118, A110, H⟩ := H
        replace H : (if t117 = t118 then ((word_Right.f a0 a1 true).bind fun t119 => ((word_Right.f a0 (Go.bits .and .i64 a1 31) true).bind fun t120 => (corrallaw1_WordShifts.j0 k a0 true (Go.bits .and .i64 a1 31) (t119 != t120)))) else (corrallaw1_WordShifts.j0 k a0 true (Go.bits .and .i64 a1 31) true)) = some r := H
        have A11 := Aside0.mk A110
        clear A110
        by_cases c12 : t117 = t118
        · rw [if_pos c12] at H
          have c12b0 : (t117 == t118) = true := beq_iff_eq.mpr c12
          have c12b1 : (t117 != t118) = false := bne_eq_false_iff_eq.mpr c12
          clear c12
          replace H := Option.bind_eq_some_iff.mp H
          obtain ⟨t119, A130, H⟩ := H
          replace H : ((word_Right.f a0 (Go.bits .and .i64 a1 31) true).bind fun t120 => (corrallaw1_WordShifts.j0 k a0 true (Go.bits .and .i64 a1 31) (t119 != t120))) = some r := H
          have A13 := Aside0.mk A130
          clear A130
          replace H := Option.bind_eq_some_iff.mp H
          obtain ⟨t120, A140, H⟩ := H
          replace H : (corrallaw1_WordShifts.j0 k a0 true (Go.bits .and .i64 a1 31) (t119 != t120)) = some r := H
          have A14 := Aside0.mk A140
          clear A140
          have H' := Aside0.mk H
          clear H
          go_wp2_with (first | ((with_reducible refine gate_callee (f := 24) rfl ?_); refine goesL_ (some 15) rfl rfl Try.func24 (by kernel_rfl) rfl #[.int .u32 a0, .int .i64 a1] rfl (by (try simp only [List.map_toArray, List.map_cons, List.map_nil]); first | done | rfl | (simp only [List.length_drop, List.length_take]; rfl)) ?_; (with_reducible refine (word_Left.calls a0 a1 t115 _ A7.out).mono ?_); rintro e w' ⟨rfl, ⟨nd, rfl⟩⟩; refine ⟨_, rfl, ?_⟩) | ((with_reducible refine gate_callee (f := 24) rfl ?_); refine goesL_ (some 18) rfl rfl Try.func24 (by kernel_rfl) rfl #[.int .u32 a0, .int .i64 (Go.bits .and .i64 a1 31)] rfl (by (try simp only [List.map_toArray, List.map_cons, List.map_nil]); first | done | rfl | (simp only [List.length_drop, List.length_take]; rfl)) ?_; (with_reducible refine (word_Left.calls a0 (Go.bits .and .i64 a1 31) t116 _ A8.out).mono ?_); rintro e w' ⟨rfl, ⟨nd, rfl⟩⟩; refine ⟨_, rfl, ?_⟩) | (go_at_call 25; (with_reducible refine (word_Right.calls a0 a1 false t117 _ A10.out).mono ?_); rintro e w' ⟨rfl, ⟨nd, rfl⟩⟩) | (go_at_call 25; (with_reducible refine (word_Right.calls a0 (Go.bits .and .i64 a1 31) false t118 _ A11.out).mono ?_); rintro e w' ⟨rfl, ⟨nd, rfl⟩⟩) | (go_at_call 25; (with_reducible refine (word_Right.calls a0 a1 true t119 _ A13.out).mono ?_); rintro e w' ⟨rfl, ⟨nd, rfl⟩⟩) | (go_at_call 25; (with_reducible refine (word_Right.calls a0 (Go.bits .and .i64 a1 31) true t120 _ A14.out).mono ?_); rintro e w' ⟨rfl, ⟨nd, rfl⟩⟩))
          go_meet
          case rel => exact ⟨_, ((t119 != t120)), (by first | rfl | (simp; done) | (simp [*]; done)), H', ⟨by first | omega | exact Nat.le_refl _⟩, ⟨by repeat (first | (with_reducible first | exact HB.out | apply below_alloc | apply pw_below_drewN | apply below_drew1) | exact HB.out)⟩⟩
        · rw [if_neg c12] at H
          have c12b0 : (t117 == t118) = false := beq_eq_false_iff_ne.mpr c12
          have c12b1 : (t117 != t118) = true := bne_iff_ne.mpr c12
          have H' := Aside0.mk H
          clear H
          go_wp2_with (first | ((with_reducible refine gate_callee (f := 24) rfl ?_); refine goesL_ (some 15) rfl rfl Try.func24 (by kernel_rfl) rfl #[.int .u32 a0, .int .i64 a1] rfl (by (try simp only [List.map_toArray, List.map_cons, List.map_nil]); first | done | rfl | (simp only [List.length_drop, List.length_take]; rfl)) ?_; (with_reducible refine (word_Left.calls a0 a1 t115 _ A7.out).mono ?_); rintro e w' ⟨rfl, ⟨nd, rfl⟩⟩; refine ⟨_, rfl, ?_⟩) | ((with_reducible refine gate_callee (f := 24) rfl ?_); refine goesL_ (some 18) rfl rfl Try.func24 (by kernel_rfl) rfl #[.int .u32 a0, .int .i64 (Go.bits .and .i64 a1 31)] rfl (by (try simp only [List.map_toArray, List.map_cons, List.map_nil]); first | done | rfl | (simp only [List.length_drop, List.length_take]; rfl)) ?_; (with_reducible refine (word_Left.calls a0 (Go.bits .and .i64 a1 31) t116 _ A8.out).mono ?_); rintro e w' ⟨rfl, ⟨nd, rfl⟩⟩; refine ⟨_, rfl, ?_⟩) | (go_at_call 25; (with_reducible refine (word_Right.calls a0 a1 false t117 _ A10.out).mono ?_); rintro e w' ⟨rfl, ⟨nd, rfl⟩⟩) | (go_at_call 25; (with_reducible refine (word_Right.calls a0 (Go.bits .and .i64 a1 31) false t118 _ A11.out).mono ?_); rintro e w' ⟨rfl, ⟨nd, rfl⟩⟩))
          go_meet
          case rel => exact ⟨_, (true), (by first | rfl | (simp; done) | (simp [*]; done)), H', ⟨by first | omega | exact Nat.le_refl _⟩, ⟨by repeat (first | (with_reducible first | exact HB.out | apply below_alloc | apply pw_below_drewN | apply below_drew1) | exact HB.out)⟩⟩
      · rw [if_neg c9] at H
        have c9b0 : (t115 == t116) = false := beq_eq_false_iff_ne.mpr c9
        have c9b1 : (t115 != t116) = true := bne_iff_ne.mpr c9
        (first | rw [c9b0] | (simp only [i64_w, i32_w]; rw [c9b0]) | skip)
        have H' := Aside0.mk H
        clear H
        go_wp2_with (first | ((with_reducible refine gate_callee (f := 24) rfl ?_); refine goesL_ (some 15) rfl rfl Try.func24 (by kernel_rfl) rfl #[.int .u32 a0, .int .i64 a1] rfl (by (try simp only [List.map_toArray, List.map_cons, List.map_nil]); first | done | rfl | (simp only [List.length_drop, List.length_take]; rfl)) ?_; (with_reducible refine (word_Left.calls a0 a1 t115 _ A7.out).mono ?_); rintro e w' ⟨rfl, ⟨nd, rfl⟩⟩; refine ⟨_, rfl, ?_⟩) | ((with_reducible refine gate_callee (f := 24) rfl ?_); refine goesL_ (some 18) rfl rfl Try.func24 (by kernel_rfl) rfl #[.int .u32 a0, .int .i64 (Go.bits .and .i64 a1 31)] rfl (by (try simp only [List.map_toArray, List.map_cons, List.map_nil]); first | done | rfl | (simp only [List.length_drop, List.length_take]; rfl)) ?_; (with_reducible refine (word_Left.calls a0 (Go.bits .and .i64 a1 31) t116 _ A8.out).mono ?_); rintro e w' ⟨rfl, ⟨nd, rfl⟩⟩; refine ⟨_, rfl, ?_⟩))
        go_meet
        case rel => exact ⟨_, (true), (by first | rfl | (simp; done) | (simp [*]; done)), H', ⟨by first | omega | exact Nat.le_refl _⟩, ⟨by repeat (first | (with_reducible first | exact HB.out | apply below_alloc | apply pw_below_drewN | apply below_drew1) | exact HB.out)⟩⟩
    case rest =>
      clear HC5
      try clear c1
      try clear c2
      try clear p2
      try clear c4
      try clear c9
      try clear c9b0
      try clear c9b1
      try clear c10
      try clear c12
      try clear c12b0
      try clear c12b1
      obtain ⟨kq, x37_4, rfl, HA, HJ4, HB⟩ := hcut
      cases kq with
      | zero => exact absurd HA.out (by simp [corrallaw1_WordShifts.j0])
      | succ kj4 =>
        have H := HA.out
        clear HA
        simp only [corrallaw1_WordShifts.j0] at H
        by_cases c15 : x37_4 = true
        · subst c15
          have H1 : (some false) = some r := by rw [if_pos rfl] at H; exact H
          clear H
          have H := H1
          clear H1
          exact absurd (Option.some.inj H) (by rw [HRT.out]; decide)
        · replace c15 := Bool.eq_false_iff.mpr c15
          subst c15
          have H1 : (if (Go.bits .and .i64 a1 31) > 0 then ((word_Left.f a0 (Go.bits .and .i64 a1 31)).bind fun t121 => ((word_Right.f t121 (Go.bits .and .i64 a1 31) false).bind fun t122 => ((word_Bits.f a0 0 (wrap64 (32 - (Go.bits .and .i64 a1 31)))).bind fun t123 => (if t122 = t123 then ((word_Right.f t121 (Go.bits .and .i64 a1 31) true).bind fun t124 => ((word_Sign.f a0 (wrap64 (32 - (Go.bits .and .i64 a1 31)))).bind fun t125 => (corrallaw1_WordShifts.j1 kj4 a0 true (t124 != t125)))) else (corrallaw1_WordShifts.j1 kj4 a0 true true))))) else (corrallaw1_WordShifts.j1 kj4 a0 true false)) = some r := by rw [if_neg (show ¬ (false = true) by decide)] at H; exact H
          clear H
          have H := H1
          clear H1
          have HC16 := Aside0.mk H
          clear H
          go_upto_region 7 with (fail)
          go_cut [63] (fun v63 wc => ∃ (kq : Nat) (x63_15 : Bool), v63 = .bool x63_15 ∧ Aside0 (corrallaw1_WordShifts.j1 kq a0 true x63_15 = some r) ∧ Aside0 (kq ≤ kj4) ∧ Aside0 (Below w.heap.size w wc))
          case first =>
            have H := HC16.out
            clear HC16
            by_cases c17 : (Go.bits .and .i64 a1 31) > 0
            · rw [if_pos c17] at H
              have c17b0 : decide (0 < (Go.bits .and .i64 a1 31)) = true := decide_eq_true c17
              clear c17
              (first | rw [c17b0] | (simp only [i64_w, i32_w]; rw [c17b0]) | skip)
              replace H := Option.bind_eq_some_iff.mp H
              obtain ⟨t121, A180, H⟩ := H
              replace H : ((word_Right.f t121 (Go.bits .and .i64 a1 31) false).bind fun t122 => ((word_Bits.f a0 0 (wrap64 (32 - (Go.bits .and .i64 a1 31)))).bind fun t123 => (if t122 = t123 then ((word_Right.f t121 (Go.bits .and .i64 a1 31) true).bind fun t124 => ((word_Sign.f a0 (wrap64 (32 - (Go.bits .and .i64 a1 31)))).bind fun t125 => (corrallaw1_WordShifts.j1 kj4 a0 true (t124 != t125)))) else (corrallaw1_WordShifts.j1 kj4 a0 true true)))) = some r := H
              have A18 := Aside0.mk A180
              clear A180
              replace H := Option.bind_eq_some_iff.mp H
              obtain ⟨t122, A190, H⟩ := H
              replace H : ((word_Bits.f a0 0 (wrap64 (32 - (Go.bits .and .i64 a1 31)))).bind fun t123 => (if t122 = t123 then ((word_Right.f t121 (Go.bits .and .i64 a1 31) true).bind fun t124 => ((word_Sign.f a0 (wrap64 (32 - (Go.bits .and .i64 a1 31)))).bind fun t125 => (corrallaw1_WordShifts.j1 kj4 a0 true (t124 != t125)))) else (corrallaw1_WordShifts.j1 kj4 a0 true true))) = some r := H
              have A19 := Aside0.mk A190
              clear A190
              replace H := Option.bind_eq_some_iff.mp H
              obtain ⟨t123, A200, H⟩ := H
              replace H : (if t122 = t123 then ((word_Right.f t121 (Go.bits .and .i64 a1 31) true).bind fun t124 => ((word_Sign.f a0 (wrap64 (32 - (Go.bits .and .i64 a1 31)))).bind fun t125 => (corrallaw1_WordShifts.j1 kj4 a0 true (t124 != t125)))) else (corrallaw1_WordShifts.j1 kj4 a0 true true)) = some r := H
              have A20 := Aside0.mk A200
              clear A200
              by_cases c21 : t122 = t123
              · rw [if_pos c21] at H
                have c21b0 : (t122 == t123) = true := beq_iff_eq.mpr c21
                have c21b1 : (t122 != t123) = false := bne_eq_false_iff_eq.mpr c21
                clear c21
                replace H := Option.bind_eq_some_iff.mp H
                obtain ⟨t124, A220, H⟩ := H
                replace H : ((word_Sign.f a0 (wrap64 (32 - (Go.bits .and .i64 a1 31)))).bind fun t125 => (corrallaw1_WordShifts.j1 kj4 a0 true (t124 != t125))) = some r := H
                have A22 := Aside0.mk A220
                clear A220
                replace H := Option.bind_eq_some_iff.mp H
                obtain ⟨t125, A230, H⟩ := H
                replace H : (corrallaw1_WordShifts.j1 kj4 a0 true (t124 != t125)) = some r := H
                have A23 := Aside0.mk A230
                clear A230
                have H' := Aside0.mk H
                clear H
                go_wp2_with (first | (go_at_call 24; (with_reducible refine (word_Left.calls a0 (Go.bits .and .i64 a1 31) t121 _ A18.out).mono ?_); rintro e w' ⟨rfl, ⟨nd, rfl⟩⟩) | (go_at_call 25; (with_reducible refine (word_Right.calls t121 (Go.bits .and .i64 a1 31) false t122 _ A19.out).mono ?_); rintro e w' ⟨rfl, ⟨nd, rfl⟩⟩) | (go_at_call 23; (with_reducible refine (word_Bits.calls a0 0 (wrap64 (32 - (Go.bits .and .i64 a1 31))) t123 _ A20.out).mono ?_); rintro e w24 ⟨rfl, hb⟩; have n0_ := Aside0.mk (below_step (by repeat (first | (with_reducible first | exact HB.out | apply below_alloc | apply pw_below_drewN | apply below_drew1) | exact HB.out)) hb); clear HB; have HB := n0_; clear n0_; (try clear hb); (try clear hb2); (try clear hk); (try clear hi)) | (go_at_call 25; (with_reducible refine (word_Right.calls t121 (Go.bits .and .i64 a1 31) true t124 _ A22.out).mono ?_); rintro e w' ⟨rfl, ⟨nd, rfl⟩⟩) | (go_at_call 30; (with_reducible refine (word_Sign.calls a0 (wrap64 (32 - (Go.bits .and .i64 a1 31))) t125 _ A23.out).mono ?_); rintro e w' ⟨rfl, ⟨nd, rfl⟩⟩))
                go_meet
                case rel => exact ⟨_, ((t124 != t125)), (by first | rfl | (simp; done) | (simp [*]; done)), H', ⟨by have := HJ4.out; first | omega | exact Nat.le_refl _⟩, ⟨by repeat (first | (with_reducible first | exact HB.out | apply below_alloc | apply pw_below_drewN | apply below_drew1) | exact HB.out)⟩⟩
              · rw [if_neg c21] at H
                have c21b0 : (t122 == t123) = false := beq_eq_false_iff_ne.mpr c21
                have c21b1 : (t122 != t123) = true := bne_iff_ne.mpr c21
                have H' := Aside0.mk H
                clear H
                go_wp2_with (first | (go_at_call 24; (with_reducible refine (word_Left.calls a0 (Go.bits .and .i64 a1 31) t121 _ A18.out).mono ?_); rintro e w' ⟨rfl, ⟨nd, rfl⟩⟩) | (go_at_call 25; (with_reducible refine (word_Right.calls t121 (Go.bits .and .i64 a1 31) false t122 _ A19.out).mono ?_); rintro e w' ⟨rfl, ⟨nd, rfl⟩⟩) | (go_at_call 23; (with_reducible refine (word_Bits.calls a0 0 (wrap64 (32 - (Go.bits .and .i64 a1 31))) t123 _ A20.out).mono ?_); rintro e w25 ⟨rfl, hb⟩; have n0_ := Aside0.mk (below_step (by repeat (first | (with_reducible first | exact HB.out | apply below_alloc | apply pw_below_drewN | apply below_drew1) | exact HB.out)) hb); clear HB; have HB := n0_; clear n0_; (try clear hb); (try clear hb2); (try clear hk); (try clear hi)))
                go_meet
                case rel => exact ⟨_, (true), (by first | rfl | (simp; done) | (simp [*]; done)), H', ⟨by have := HJ4.out; first | omega | exact Nat.le_refl _⟩, ⟨by repeat (first | (with_reducible first | exact HB.out | apply below_alloc | apply pw_below_drewN | apply below_drew1) | exact HB.out)⟩⟩
            · rw [if_neg c17] at H
              have c17b0 : decide (0 < (Go.bits .and .i64 a1 31)) = false := decide_eq_false c17
              clear c17
              (first | rw [c17b0] | (simp only [i64_w, i32_w]; rw [c17b0]) | skip)
              have H' := Aside0.mk H
              clear H
              go_wp2
              go_meet
              case rel => exact ⟨_, (false), (by first | rfl | (simp; done) | (simp [*]; done)), H', ⟨by have := HJ4.out; first | omega | exact Nat.le_refl _⟩, ⟨by repeat (first | (with_reducible first | exact HB.out | apply below_alloc | apply pw_below_drewN | apply below_drew1) | exact HB.out)⟩⟩
          case rest =>
            clear HC16
            try clear c1
            try clear c2
            try clear p2
            try clear c4
            try clear p6
            try clear c9
            try clear c9b0
            try clear c9b1
            try clear c10
            try clear c12
            try clear c12b0
            try clear c12b1
            try clear c15
            try clear c17
            try clear c17b0
            try clear c20
            try clear c21
            try clear c21b0
            try clear c21b1
            try clear c24
            try clear p2
            obtain ⟨kq, x63_15, rfl, HA, HJ15, HB⟩ := hcut
            cases kq with
            | zero => exact absurd HA.out (by simp [corrallaw1_WordShifts.j1])
            | succ kj15 =>
              have H := HA.out
              clear HA
              simp only [corrallaw1_WordShifts.j1] at H
              by_cases c26 : x63_15 = true
              · subst c26
                have H1 : (some false) = some r := by rw [if_pos rfl] at H; exact H
                clear H
                have H := H1
                clear H1
                exact absurd (Option.some.inj H) (by rw [HRT.out]; decide)
              · replace c26 := Bool.eq_false_iff.mpr c26
                subst c26
                have H1 : ((word_Right.f a0 1 true).bind fun t126 => (if true = true then (if (((t126 + t126) + (Go.bits .and .u32 a0 1)) % 4294967296) = a0 then ((word_Less.f t126 0 true).bind fun t127 => ((word_Less.f a0 0 true).bind fun t128 => (some (t127 == t128)))) else (some false)) else (some false))) = some r := by rw [if_neg (show ¬ (false = true) by decide)] at H; exact H
                clear H
                have H := H1
                clear H1
                replace H := Option.bind_eq_some_iff.mp H
                obtain ⟨t126, A270, H⟩ := H
                replace H : (if true = true then (if (((t126 + t126) + (Go.bits .and .u32 a0 1)) % 4294967296) = a0 then ((word_Less.f t126 0 true).bind fun t127 => ((word_Less.f a0 0 true).bind fun t128 => (some (t127 == t128)))) else (some false)) else (some false)) = some r := H
                have A27 := Aside0.mk A270
                clear A270
                replace H : (if (((t126 + t126) + (Go.bits .and .u32 a0 1)) % 4294967296) = a0 then ((word_Less.f t126 0 true).bind fun t127 => ((word_Less.f a0 0 true).bind fun t128 => (some (t127 == t128)))) else (some false)) = some r := by first | (rw [if_pos rfl] at H; exact H) | (rw [if_pos trivial] at H; exact H)
                by_cases c28 : (((t126 + t126) + (Go.bits .and .u32 a0 1)) % 4294967296) = a0
                · rw [if_pos c28] at H
                  have c28b0 : ((((t126 + t126) + (Go.bits .and .u32 a0 1)) % 4294967296) == a0) = true := beq_iff_eq.mpr c28
                  have c28b1 : ((((t126 + t126) + (Go.bits .and .u32 a0 1)) % 4294967296) != a0) = false := bne_eq_false_iff_eq.mpr c28
                  clear c28
                  replace H := Option.bind_eq_some_iff.mp H
                  obtain ⟨t127, A290, H⟩ := H
                  replace H : ((word_Less.f a0 0 true).bind fun t128 => (some (t127 == t128))) = some r := H
                  have A29 := Aside0.mk A290
                  clear A290
                  replace H := Option.bind_eq_some_iff.mp H
                  obtain ⟨t128, A300, H⟩ := H
                  replace H : (some (t127 == t128)) = some r := H
                  have A30 := Aside0.mk A300
                  clear A300
                  clear HRT
                  obtain rfl := Option.some.inj H
                  go_wp2_with (first | ((with_reducible refine gate_callee (f := 25) rfl ?_); refine goesL_ (some 65) rfl rfl Try.func25 (by kernel_rfl) rfl #[.int .u32 a0, .int .i64 1, .bool true] rfl (by (try simp only [List.map_toArray, List.map_cons, List.map_nil]); first | done | rfl | (simp only [List.length_drop, List.length_take]; rfl)) ?_; (with_reducible refine (word_Right.calls a0 1 true t126 _ A27.out).mono ?_); rintro e w' ⟨rfl, ⟨nd, rfl⟩⟩; refine ⟨_, rfl, ?_⟩) | (go_at_call 28; (with_reducible refine (word_Less.calls t126 0 true t127 _ A29.out).mono ?_); rintro e w' ⟨rfl, ⟨nd, rfl⟩⟩) | (go_at_call 28; (with_reducible refine (word_Less.calls a0 0 true t128 _ A30.out).mono ?_); rintro e w' ⟨rfl, ⟨nd, rfl⟩⟩))
                  go_ret
                  exact ⟨by first | rfl | (simp [errW_none, errW_some] <;> rfl) | (simp [*, errW_none, errW_some] <;> rfl), by repeat (first | (with_reducible first | exact HB.out | apply below_alloc | apply pw_below_drewN | apply below_drew1) | exact HB.out)⟩
                · rw [if_neg c28] at H
                  have c28b0 : ((((t126 + t126) + (Go.bits .and .u32 a0 1)) % 4294967296) == a0) = false := beq_eq_false_iff_ne.mpr c28
                  have c28b1 : ((((t126 + t126) + (Go.bits .and .u32 a0 1)) % 4294967296) != a0) = true := bne_iff_ne.mpr c28
                  exact absurd (Option.some.inj H) (by rw [HRT.out]; decide)
  · replace c4 := Bool.eq_false_iff.mpr c4
    subst c4
    have H1 : (some false) = some r := by rw [if_neg (show ¬ (false = true) by decide)] at H; exact H
    clear H
    have H := H1
    clear H1
    exact absurd (Option.some.inj H) (by rw [HRT.out]; decide)

/-- THE ONE PURE STATEMENT of corrallaw1_WordShifts: yours. -/
def corrallaw1_WordShifts.Pure : Prop := ∀ (a0 : Int) (a1 : Int), (Lit.int .u32 a0).wf = true → (Lit.int .i64 a1).wf = true → ∃ k, corrallaw1_WordShifts.f k a0 a1 = some true
theorem corrallaw1_WordShifts.walk (P : corrallaw1_WordShifts.Pure) (a0 : Int) (a1 : Int) (w : World) (w0 : (Lit.int .u32 a0).wf = true) (w1 : (Lit.int .i64 a1).wf = true) :
    Calls Try.prog 10 #[.int .u32 a0, .int .i64 a1] w fun e w' => e = .returned (.bool true) ∧ Below w.heap.size w w' := by
  obtain ⟨k, h⟩ := P a0 a1 w0 w1
  refine (corrallaw1_WordShifts.calls k a0 a1 true w h rfl).mono ?_
  rintro e w' ⟨rfl, hd⟩
  exact ⟨rfl, hd⟩

end Go.Proofs.Ythpaieglgjjbiaa.QWordShifts
