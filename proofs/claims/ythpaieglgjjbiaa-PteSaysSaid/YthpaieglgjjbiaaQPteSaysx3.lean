-- Laid by a program of this session (wip/tpl/mine.sh), out of the program's form in Lean: Lean checks it.
import Derived.Test.YthpaieglgjjbiaaQPteSaysx0
import Derived.Test.YthpaieglgjjbiaaQPteSaysx1
import Derived.Test.YthpaieglgjjbiaaQPteSaysx2
namespace Go.Proofs.Ythpaieglgjjbiaa.QPteSays
open Go.RowKit Go.Proofs.YthpaieglgjjbiaaW.PrintWords Go.Proofs.YthpaieglgjjbiaaW.PrintLast Go.Proofs.YthpaieglgjjbiaaW.PrintMore
attribute [local go_sem] max2_int min2_int max_two min_two max_three min_three max_four min_four   -- for this text's walks alone
set_option linter.unusedVariables false
set_option linter.unusedSimpArgs false

/-! ### corrallaw8_PteSays: function 11 -/
def corrallaw8_PteSays.f (k : Nat) (a0 : Int) (a1 : Int) (a2 : Int) (a3 : Bool) : Option (Bool) := (corrallaw8_first.f k).bind fun t130 => (if t130 = true then ((pte_Bad.f a0).bind fun t131 => ((corralref6_Bad.f a0).bind fun t132 => (if (t131 == t132) = true then ((pte_Leaf.f a0).bind fun t133 => ((corralref6_Leaf.f a0).bind fun t134 => (if (t133 == t134) = true then ((pte_Page.f a0).bind fun t135 => (if t135 = (a0 / 1024) then ((pte_May.f a0 a1 a2).bind fun t136 => ((corralref6_May.f k a0 a1 a2).bind fun t137 => (if (t136 == t137) = true then ((pte_Needs.f a0 a1).bind fun t138 => ((corralref6_Needs.f a0 a1).bind fun t139 => (if t138 = t139 then ((pte_Cause.f a1 a3).bind fun t140 => ((corralref6_Cause.f a1 a3).bind fun t141 => (some (t140 == t141)))) else (some false)))) else (some false)))) else (some false))) else (some false)))) else (some false)))) else (some false))
theorem corrallaw8_PteSays.mono : ∀ a0 a1 a2 a3 k, LeO (corrallaw8_PteSays.f k a0 a1 a2 a3) (corrallaw8_PteSays.f (k + 1) a0 a1 a2 a3) := by
  intro a0 a1 a2 a3 k
  unfold corrallaw8_PteSays.f
  repeat' first
      | (with_reducible exact corrallaw8_first.mono _)
      | (with_reducible exact corralref6_May.mono _ _ _ _)
      | (with_reducible exact LeO.refl _)
      | (with_reducible exact LeO.none _)
      | (with_reducible refine LeO.ite ?_ ?_)
      | (with_reducible refine LeO.bind ?_ (fun _ => ?_))
      | exact corrallaw8_first.mono _
      | exact corralref6_May.mono _ _ _ _
      | exact LeO.none _
      | refine LeO.ite ?_ ?_
      | refine LeO.bind ?_ (fun _ => ?_)
set_option maxHeartbeats 8000000 in
set_option maxRecDepth 100000 in
theorem corrallaw8_PteSays.calls (k : Nat) (a0 : Int) (a1 : Int) (a2 : Int) (a3 : Bool) (r : Bool) (w : World) (h : corrallaw8_PteSays.f k a0 a1 a2 a3 = some r) :
    Calls Try.prog 11 #[.int .u32 a0, .int .i64 a1, .int .i64 a2, .bool a3] w fun e w' => e = .returned (.bool r) ∧ Below w.heap.size w w' := by
  have HB := Aside0.mk (Below.refl w.heap.size w)
  have H : ((corrallaw8_first.f k).bind fun t130 => (if t130 = true then ((pte_Bad.f a0).bind fun t131 => ((corralref6_Bad.f a0).bind fun t132 => (if (t131 == t132) = true then ((pte_Leaf.f a0).bind fun t133 => ((corralref6_Leaf.f a0).bind fun t134 => (if (t133 == t134) = true then ((pte_Page.f a0).bind fun t135 => (if t135 = (a0 / 1024) then ((pte_May.f a0 a1 a2).bind fun t136 => ((corralref6_May.f k a0 a1 a2).bind fun t137 => (if (t136 == t137) = true then ((pte_Needs.f a0 a1).bind fun t138 => ((corralref6_Needs.f a0 a1).bind fun t139 => (if t138 = t139 then ((pte_Cause.f a1 a3).bind fun t140 => ((corralref6_Cause.f a1 a3).bind fun t141 => (some (t140 == t141)))) else (some false)))) else (some false)))) else (some false))) else (some false)))) else (some false)))) else (some false))) = some r := h
  clear h
  replace H := Option.bind_eq_some_iff.mp H
  obtain ⟨t130, A50, H⟩ := H
  replace H : (if t130 = true then ((pte_Bad.f a0).bind fun t131 => ((corralref6_Bad.f a0).bind fun t132 => (if (t131 == t132) = true then ((pte_Leaf.f a0).bind fun t133 => ((corralref6_Leaf.f a0).bind fun t134 => (if (t133 == t134) = true then ((pte_Page.f a0).bind fun t135 => (if t135 = (a0 / 1024) then ((pte_May.f a0 a1 a2).bind fun t136 => ((corralref6_May.f k a0 a1 a2).bind fun t137 => (if (t136 == t137) = true then ((pte_Needs.f a0 a1).bind fun t138 => ((corralref6_Needs.f a0 a1).bind fun t139 => (if t138 = t139 then ((pte_Cause.f a1 a3).bind fun t140 => ((corralref6_Cause.f a1 a3).bind fun t141 => (some (t140 == t141)))) else (some false)))) else (some false)))) else (some false))) else (some false)))) else (some false)))) else (some false)) = some r := H
  have A5 := Aside0.mk A50
  clear A50
  by_cases c6 : t130 = true
  · subst c6
    have H1 : ((pte_Bad.f a0).bind fun t131 => ((corralref6_Bad.f a0).bind fun t132 => (if (t131 == t132) = true then ((pte_Leaf.f a0).bind fun t133 => ((corralref6_Leaf.f a0).bind fun t134 => (if (t133 == t134) = true then ((pte_Page.f a0).bind fun t135 => (if t135 = (a0 / 1024) then ((pte_May.f a0 a1 a2).bind fun t136 => ((corralref6_May.f k a0 a1 a2).bind fun t137 => (if (t136 == t137) = true then ((pte_Needs.f a0 a1).bind fun t138 => ((corralref6_Needs.f a0 a1).bind fun t139 => (if t138 = t139 then ((pte_Cause.f a1 a3).bind fun t140 => ((corralref6_Cause.f a1 a3).bind fun t141 => (some (t140 == t141)))) else (some false)))) else (some false)))) else (some false))) else (some false)))) else (some false)))) = some r := by rw [if_pos rfl] at H; exact H
    clear H
    have H := H1
    clear H1
    replace H := Option.bind_eq_some_iff.mp H
    obtain ⟨t131, A70, H⟩ := H
    replace H : ((corralref6_Bad.f a0).bind fun t132 => (if (t131 == t132) = true then ((pte_Leaf.f a0).bind fun t133 => ((corralref6_Leaf.f a0).bind fun t134 => (if (t133 == t134) = true then ((pte_Page.f a0).bind fun t135 => (if t135 = (a0 / 1024) then ((pte_May.f a0 a1 a2).bind fun t136 => ((corralref6_May.f k a0 a1 a2).bind fun t137 => (if (t136 == t137) = true then ((pte_Needs.f a0 a1).bind fun t138 => ((corralref6_Needs.f a0 a1).bind fun t139 => (if t138 = t139 then ((pte_Cause.f a1 a3).bind fun t140 => ((corralref6_Cause.f a1 a3).bind fun t141 => (some (t140 == t141)))) else (some false)))) else (some false)))) else (some false))) else (some false)))) else (some false))) = some r := H
    have A7 := Aside0.mk A70
    clear A70
    replace H := Option.bind_eq_some_iff.mp H
    obtain ⟨t132, A80, H⟩ := H
    replace H : (if (t131 == t132) = true then ((pte_Leaf.f a0).bind fun t133 => ((corralref6_Leaf.f a0).bind fun t134 => (if (t133 == t134) = true then ((pte_Page.f a0).bind fun t135 => (if t135 = (a0 / 1024) then ((pte_May.f a0 a1 a2).bind fun t136 => ((corralref6_May.f k a0 a1 a2).bind fun t137 => (if (t136 == t137) = true then ((pte_Needs.f a0 a1).bind fun t138 => ((corralref6_Needs.f a0 a1).bind fun t139 => (if t138 = t139 then ((pte_Cause.f a1 a3).bind fun t140 => ((corralref6_Cause.f a1 a3).bind fun t141 => (some (t140 == t141)))) else (some false)))) else (some false)))) else (some false))) else (some false)))) else (some false)) = some r := H
    have A8 := Aside0.mk A80
    clear A80
    by_cases c9 : (t131 == t132) = true
    · rw [if_pos c9] at H
      have c9b0 : (t131 == t132) = true := c9
      (try (have c9b1 : decide (t131 = t132) = true := by simpa using c9))
      (try (have c9b2 : (t131 == t132) = true := by simpa using c9))
      clear c9
      replace H := Option.bind_eq_some_iff.mp H
      obtain ⟨t133, A100, H⟩ := H
      replace H : ((corralref6_Leaf.f a0).bind fun t134 => (if (t133 == t134) = true then ((pte_Page.f a0).bind fun t135 => (if t135 = (a0 / 1024) then ((pte_May.f a0 a1 a2).bind fun t136 => ((corralref6_May.f k a0 a1 a2).bind fun t137 => (if (t136 == t137) = true then ((pte_Needs.f a0 a1).bind fun t138 => ((corralref6_Needs.f a0 a1).bind fun t139 => (if t138 = t139 then ((pte_Cause.f a1 a3).bind fun t140 => ((corralref6_Cause.f a1 a3).bind fun t141 => (some (t140 == t141)))) else (some false)))) else (some false)))) else (some false))) else (some false))) = some r := H
      have A10 := Aside0.mk A100
      clear A100
      replace H := Option.bind_eq_some_iff.mp H
      obtain ⟨t134, A110, H⟩ := H
      replace H : (if (t133 == t134) = true then ((pte_Page.f a0).bind fun t135 => (if t135 = (a0 / 1024) then ((pte_May.f a0 a1 a2).bind fun t136 => ((corralref6_May.f k a0 a1 a2).bind fun t137 => (if (t136 == t137) = true then ((pte_Needs.f a0 a1).bind fun t138 => ((corralref6_Needs.f a0 a1).bind fun t139 => (if t138 = t139 then ((pte_Cause.f a1 a3).bind fun t140 => ((corralref6_Cause.f a1 a3).bind fun t141 => (some (t140 == t141)))) else (some false)))) else (some false)))) else (some false))) else (some false)) = some r := H
      have A11 := Aside0.mk A110
      clear A110
      by_cases c12 : (t133 == t134) = true
      · rw [if_pos c12] at H
        have c12b0 : (t133 == t134) = true := c12
        (try (have c12b1 : decide (t133 = t134) = true := by simpa using c12))
        (try (have c12b2 : (t133 == t134) = true := by simpa using c12))
        clear c12
        replace H := Option.bind_eq_some_iff.mp H
        obtain ⟨t135, A130, H⟩ := H
        replace H : (if t135 = (a0 / 1024) then ((pte_May.f a0 a1 a2).bind fun t136 => ((corralref6_May.f k a0 a1 a2).bind fun t137 => (if (t136 == t137) = true then ((pte_Needs.f a0 a1).bind fun t138 => ((corralref6_Needs.f a0 a1).bind fun t139 => (if t138 = t139 then ((pte_Cause.f a1 a3).bind fun t140 => ((corralref6_Cause.f a1 a3).bind fun t141 => (some (t140 == t141)))) else (some false)))) else (some false)))) else (some false)) = some r := H
        have A13 := Aside0.mk A130
        clear A130
        by_cases c14 : t135 = (a0 / 1024)
        · rw [if_pos c14] at H
          have c14b0 : (t135 == (a0 / 1024)) = true := beq_iff_eq.mpr c14
          have c14b1 : (t135 != (a0 / 1024)) = false := bne_eq_false_iff_eq.mpr c14
          clear c14
          replace H := Option.bind_eq_some_iff.mp H
          obtain ⟨t136, A150, H⟩ := H
          replace H : ((corralref6_May.f k a0 a1 a2).bind fun t137 => (if (t136 == t137) = true then ((pte_Needs.f a0 a1).bind fun t138 => ((corralref6_Needs.f a0 a1).bind fun t139 => (if t138 = t139 then ((pte_Cause.f a1 a3).bind fun t140 => ((corralref6_Cause.f a1 a3).bind fun t141 => (some (t140 == t141)))) else (some false)))) else (some false))) = some r := H
          have A15 := Aside0.mk A150
          clear A150
          replace H := Option.bind_eq_some_iff.mp H
          obtain ⟨t137, A160, H⟩ := H
          replace H : (if (t136 == t137) = true then ((pte_Needs.f a0 a1).bind fun t138 => ((corralref6_Needs.f a0 a1).bind fun t139 => (if t138 = t139 then ((pte_Cause.f a1 a3).bind fun t140 => ((corralref6_Cause.f a1 a3).bind fun t141 => (some (t140 == t141)))) else (some false)))) else (some false)) = some r := H
          have A16 := Aside0.mk A160
          clear A160
          by_cases c17 : (t136 == t137) = true
          · rw [if_pos c17] at H
            have c17b0 : (t136 == t137) = true := c17
            (try (have c17b1 : decide (t136 = t137) = true := by simpa using c17))
            (try (have c17b2 : (t136 == t137) = true := by simpa using c17))
            clear c17
            replace H := Option.bind_eq_some_iff.mp H
            obtain ⟨t138, A180, H⟩ := H
            replace H : ((corralref6_Needs.f a0 a1).bind fun t139 => (if t138 = t139 then ((pte_Cause.f a1 a3).bind fun t140 => ((corralref6_Cause.f a1 a3).bind fun t141 => (some (t140 == t141)))) else (some false))) = some r := H
            have A18 := Aside0.mk A180
            clear A180
            replace H := Option.bind_eq_some_iff.mp H
            obtain ⟨t139, A190, H⟩ := H
            replace H : (if t138 = t139 then ((pte_Cause.f a1 a3).bind fun t140 => ((corralref6_Cause.f a1 a3).bind fun t141 => (some (t140 == t141)))) else (some false)) = some r := H
            have A19 := Aside0.mk A190
            clear A190
            by_cases c20 : t138 = t139
            · rw [if_pos c20] at H
              have c20b0 : (t138 == t139) = true := beq_iff_eq.mpr c20
              have c20b1 : (t138 != t139) = false := bne_eq_false_iff_eq.mpr c20
              clear c20
              replace H := Option.bind_eq_some_iff.mp H
              obtain ⟨t140, A210, H⟩ := H
              replace H : ((corralref6_Cause.f a1 a3).bind fun t141 => (some (t140 == t141))) = some r := H
              have A21 := Aside0.mk A210
              clear A210
              replace H := Option.bind_eq_some_iff.mp H
              obtain ⟨t141, A220, H⟩ := H
              replace H : (some (t140 == t141)) = some r := H
              have A22 := Aside0.mk A220
              clear A220
              obtain rfl := Option.some.inj H
              go_enter Try.func11, Try.ntmps11
              go_wp2_with (first | ((with_reducible refine gate_callee (f := 13) rfl ?_); refine goesL_ (some 10) rfl rfl Try.func13 (by kernel_rfl) rfl #[] rfl (by (try simp only [List.map_toArray, List.map_cons, List.map_nil]); first | done | rfl | (simp only [List.length_drop, List.length_take]; rfl)) ?_; (with_reducible refine (corrallaw8_first.calls k  true _ A5.out).mono ?_); rintro e w23 ⟨rfl, hb⟩; refine ⟨_, rfl, ?_⟩; have n0_ := Aside0.mk (below_step (by repeat (first | (with_reducible first | exact HB.out | apply below_alloc | apply pw_below_drewN | apply below_drew1) | exact HB.out)) hb); clear HB; have HB := n0_; clear n0_; (try clear hb); (try clear hb2); (try clear hk); (try clear hi)) | (go_at_call 15; (with_reducible refine (pte_Bad.calls a0 t131 _ A7.out).mono ?_); rintro e w' ⟨rfl, ⟨nd, rfl⟩⟩) | (go_at_call 31; (with_reducible refine (corralref6_Bad.calls a0 t132 _ A8.out).mono ?_); rintro e w' ⟨rfl, ⟨nd, rfl⟩⟩) | (go_at_call 16; (with_reducible refine (pte_Leaf.calls a0 t133 _ A10.out).mono ?_); rintro e w' ⟨rfl, ⟨nd, rfl⟩⟩) | (go_at_call 32; (with_reducible refine (corralref6_Leaf.calls a0 t134 _ A11.out).mono ?_); rintro e w' ⟨rfl, ⟨nd, rfl⟩⟩) | (go_at_call 19; (with_reducible refine (pte_Page.calls a0 t135 _ A13.out).mono ?_); rintro e w' ⟨rfl, ⟨nd, rfl⟩⟩) | (go_at_call 14; (with_reducible refine (pte_May.calls a0 a1 a2 t136 _ A15.out).mono ?_); rintro e w' ⟨rfl, ⟨nd, rfl⟩⟩) | (go_at_call 33; (with_reducible refine (corralref6_May.calls k a0 a1 a2 t137 _ A16.out).mono ?_); rintro e w' ⟨rfl, ⟨nd, rfl⟩⟩) | (go_at_call 18; (with_reducible refine (pte_Needs.calls a0 a1 t138 _ A18.out).mono ?_); rintro e w' ⟨rfl, ⟨nd, rfl⟩⟩) | (go_at_call 34; (with_reducible refine (corralref6_Needs.calls a0 a1 t139 _ A19.out).mono ?_); rintro e w' ⟨rfl, ⟨nd, rfl⟩⟩) | (go_at_call 35; (with_reducible refine (pte_Cause.calls a1 a3 t140 _ A21.out).mono ?_); rintro e w' ⟨rfl, ⟨nd, rfl⟩⟩) | (go_at_call 36; (with_reducible refine (corralref6_Cause.calls a1 a3 t141 _ A22.out).mono ?_); rintro e w' ⟨rfl, ⟨nd, rfl⟩⟩))
              go_ret
              exact ⟨by first | rfl | (simp [errW_none, errW_some] <;> rfl) | (simp [*, errW_none, errW_some] <;> rfl), by repeat (first | (with_reducible first | exact HB.out | apply below_alloc | apply pw_below_drewN | apply below_drew1) | exact HB.out)⟩
            · rw [if_neg c20] at H
              have c20b0 : (t138 == t139) = false := beq_eq_false_iff_ne.mpr c20
              have c20b1 : (t138 != t139) = true := bne_iff_ne.mpr c20
              obtain rfl := Option.some.inj H
              go_enter Try.func11, Try.ntmps11
              go_wp2_with (first | ((with_reducible refine gate_callee (f := 13) rfl ?_); refine goesL_ (some 10) rfl rfl Try.func13 (by kernel_rfl) rfl #[] rfl (by (try simp only [List.map_toArray, List.map_cons, List.map_nil]); first | done | rfl | (simp only [List.length_drop, List.length_take]; rfl)) ?_; (with_reducible refine (corrallaw8_first.calls k  true _ A5.out).mono ?_); rintro e w24 ⟨rfl, hb⟩; refine ⟨_, rfl, ?_⟩; have n0_ := Aside0.mk (below_step (by repeat (first | (with_reducible first | exact HB.out | apply below_alloc | apply pw_below_drewN | apply below_drew1) | exact HB.out)) hb); clear HB; have HB := n0_; clear n0_; (try clear hb); (try clear hb2); (try clear hk); (try clear hi)) | (go_at_call 15; (with_reducible refine (pte_Bad.calls a0 t131 _ A7.out).mono ?_); rintro e w' ⟨rfl, ⟨nd, rfl⟩⟩) | (go_at_call 31; (with_reducible refine (corralref6_Bad.calls a0 t132 _ A8.out).mono ?_); rintro e w' ⟨rfl, ⟨nd, rfl⟩⟩) | (go_at_call 16; (with_reducible refine (pte_Leaf.calls a0 t133 _ A10.out).mono ?_); rintro e w' ⟨rfl, ⟨nd, rfl⟩⟩) | (go_at_call 32; (with_reducible refine (corralref6_Leaf.calls a0 t134 _ A11.out).mono ?_); rintro e w' ⟨rfl, ⟨nd, rfl⟩⟩) | (go_at_call 19; (with_reducible refine (pte_Page.calls a0 t135 _ A13.out).mono ?_); rintro e w' ⟨rfl, ⟨nd, rfl⟩⟩) | (go_at_call 14; (with_reducible refine (pte_May.calls a0 a1 a2 t136 _ A15.out).mono ?_); rintro e w' ⟨rfl, ⟨nd, rfl⟩⟩) | (go_at_call 33; (with_reducible refine (corralref6_May.calls k a0 a1 a2 t137 _ A16.out).mono ?_); rintro e w' ⟨rfl, ⟨nd, rfl⟩⟩) | (go_at_call 18; (with_reducible refine (pte_Needs.calls a0 a1 t138 _ A18.out).mono ?_); rintro e w' ⟨rfl, ⟨nd, rfl⟩⟩) | (go_at_call 34; (with_reducible refine (corralref6_Needs.calls a0 a1 t139 _ A19.out).mono ?_); rintro e w' ⟨rfl, ⟨nd, rfl⟩⟩))
              go_ret
              exact ⟨by first | rfl | (simp [errW_none, errW_some] <;> rfl) | (simp [*, errW_none, errW_some] <;> rfl), by repeat (first | (with_reducible first | exact HB.out | apply below_alloc | apply pw_below_drewN | apply below_drew1) | exact HB.out)⟩
          · rw [if_neg c17] at H
            have c17b0 : (t136 == t137) = false := by simpa using c17
            (try (have c17b1 : decide (t136 = t137) = false := by simpa using c17))
            (try (have c17b2 : (t136 == t137) = false := by simpa using c17))
            (try (have c17b3 : ¬ (t136 = t137) := by simpa using c17))
            clear c17
            obtain rfl := Option.some.inj H
            go_enter Try.func11, Try.ntmps11
            go_wp2_with (first | ((with_reducible refine gate_callee (f := 13) rfl ?_); refine goesL_ (some 10) rfl rfl Try.func13 (by kernel_rfl) rfl #[] rfl (by (try simp only [List.map_toArray, List.map_cons, List.map_nil]); first | done | rfl | (simp only [List.length_drop, List.length_take]; rfl)) ?_; (with_reducible refine (corrallaw8_first.calls k  true _ A5.out).mono ?_); rintro e w25 ⟨rfl, hb⟩; refine ⟨_, rfl, ?_⟩; have n0_ := Aside0.mk (below_step (by repeat (first | (with_reducible first | exact HB.out | apply below_alloc | apply pw_below_drewN | apply below_drew1) | exact HB.out)) hb); clear HB; have HB := n0_; clear n0_; (try clear hb); (try clear hb2); (try clear hk); (try clear hi)) | (go_at_call 15; (with_reducible refine (pte_Bad.calls a0 t131 _ A7.out).mono ?_); rintro e w' ⟨rfl, ⟨nd, rfl⟩⟩) | (go_at_call 31; (with_reducible refine (corralref6_Bad.calls a0 t132 _ A8.out).mono ?_); rintro e w' ⟨rfl, ⟨nd, rfl⟩⟩) | (go_at_call 16; (with_reducible refine (pte_Leaf.calls a0 t133 _ A10.out).mono ?_); rintro e w' ⟨rfl, ⟨nd, rfl⟩⟩) | (go_at_call 32; (with_reducible refine (corralref6_Leaf.calls a0 t134 _ A11.out).mono ?_); rintro e w' ⟨rfl, ⟨nd, rfl⟩⟩) | (go_at_call 19; (with_reducible refine (pte_Page.calls a0 t135 _ A13.out).mono ?_); rintro e w' ⟨rfl, ⟨nd, rfl⟩⟩) | (go_at_call 14; (with_reducible refine (pte_May.calls a0 a1 a2 t136 _ A15.out).mono ?_); rintro e w' ⟨rfl, ⟨nd, rfl⟩⟩) | (go_at_call 33; (with_reducible refine (corralref6_May.calls k a0 a1 a2 t137 _ A16.out).mono ?_); rintro e w' ⟨rfl, ⟨nd, rfl⟩⟩))
            go_ret
            exact ⟨by first | rfl | (simp [errW_none, errW_some] <;> rfl) | (simp [*, errW_none, errW_some] <;> rfl), by repeat (first | (with_reducible first | exact HB.out | apply below_alloc | apply pw_below_drewN | apply below_drew1) | exact HB.out)⟩
        · rw [if_neg c14] at H
          have c14b0 : (t135 == (a0 / 1024)) = false := beq_eq_false_iff_ne.mpr c14
          have c14b1 : (t135 != (a0 / 1024)) = true := bne_iff_ne.mpr c14
          obtain rfl := Option.some.inj H
          go_enter Try.func11, Try.ntmps11
          go_wp2_with (first | ((with_reducible refine gate_callee (f := 13) rfl ?_); refine goesL_ (some 10) rfl rfl Try.func13 (by kernel_rfl) rfl #[] rfl (by (try simp only [List.map_toArray, List.map_cons, List.map_nil]); first | done | rfl | (simp only [List.length_drop, List.length_take]; rfl)) ?_; (with_reducible refine (corrallaw8_first.calls k  true _ A5.out).mono ?_); rintro e w26 ⟨rfl, hb⟩; refine ⟨_, rfl, ?_⟩; have n0_ := Aside0.mk (below_step (by repeat (first | (with_reducible first | exact HB.out | apply below_alloc | apply pw_below_drewN | apply below_drew1) | exact HB.out)) hb); clear HB; have HB := n0_; clear n0_; (try clear hb); (try clear hb2); (try clear hk); (try clear hi)) | (go_at_call 15; (with_reducible refine (pte_Bad.calls a0 t131 _ A7.out).mono ?_); rintro e w' ⟨rfl, ⟨nd, rfl⟩⟩) | (go_at_call 31; (with_reducible refine (corralref6_Bad.calls a0 t132 _ A8.out).mono ?_); rintro e w' ⟨rfl, ⟨nd, rfl⟩⟩) | (go_at_call 16; (with_reducible refine (pte_Leaf.calls a0 t133 _ A10.out).mono ?_); rintro e w' ⟨rfl, ⟨nd, rfl⟩⟩) | (go_at_call 32; (with_reducible refine (corralref6_Leaf.calls a0 t134 _ A11.out).mono ?_); rintro e w' ⟨rfl, ⟨nd, rfl⟩⟩) | (go_at_call 19; (with_reducible refine (pte_Page.calls a0 t135 _ A13.out).mono ?_); rintro e w' ⟨rfl, ⟨nd, rfl⟩⟩))
          go_ret
          exact ⟨by first | rfl | (simp [errW_none, errW_some] <;> rfl) | (simp [*, errW_none, errW_some] <;> rfl), by repeat (first | (with_reducible first | exact HB.out | apply below_alloc | apply pw_below_drewN | apply below_drew1) | exact HB.out)⟩
      · rw [if_neg c12] at H
        have c12b0 : (t133 == t134) = false := by simpa using c12
        (try (have c12b1 : decide (t133 = t134) = false := by simpa using c12))
        (try (have c12b2 : (t133 == t134) = false := by simpa using c12))
        (try (have c12b3 : ¬ (t133 = t134) := by simpa using c12))
        clear c12
        obtain rfl := Option.some.inj H
        go_enter Try.func11, Try.ntmps11
        go_wp2_with (first | ((with_reducible refine gate_callee (f := 13) rfl ?_); refine goesL_ (some 10) rfl rfl Try.func13 (by kernel_rfl) rfl #[] rfl (by (try simp only [List.map_toArray, List.map_cons, List.map_nil]); first | done | rfl | (simp only [List.length_drop, List.length_take]; rfl)) ?_; (with_reducible refine (corrallaw8_first.calls k  true _ A5.out).mono ?_); rintro e w27 ⟨rfl, hb⟩; refine ⟨_, rfl, ?_⟩; have n0_ := Aside0.mk (below_step (by repeat (first | (with_reducible first | exact HB.out | apply below_alloc | apply pw_below_drewN | apply below_drew1) | exact HB.out)) hb); clear HB; have HB := n0_; clear n0_; (try clear hb); (try clear hb2); (try clear hk); (try clear hi)) | (go_at_call 15; (with_reducible refine (pte_Bad.calls a0 t131 _ A7.out).mono ?_); rintro e w' ⟨rfl, ⟨nd, rfl⟩⟩) | (go_at_call 31; (with_reducible refine (corralref6_Bad.calls a0 t132 _ A8.out).mono ?_); rintro e w' ⟨rfl, ⟨nd, rfl⟩⟩) | (go_at_call 16; (with_reducible refine (pte_Leaf.calls a0 t133 _ A10.out).mono ?_); rintro e w' ⟨rfl, ⟨nd, rfl⟩⟩) | (go_at_call 32; (with_reducible refine (corralref6_Leaf.calls a0 t134 _ A11.out).mono ?_); rintro e w' ⟨rfl, ⟨nd, rfl⟩⟩))
        go_ret
        exact ⟨by first | rfl | (simp [errW_none, errW_some] <;> rfl) | (simp [*, errW_none, errW_some] <;> rfl), by repeat (first | (with_reducible first | exact HB.out | apply below_alloc | apply pw_below_drewN | apply below_drew1) | exact HB.out)⟩
    · rw [if_neg c9] at H
      have c9b0 : (t131 == t132) = false := by simpa using c9
      (try (have c9b1 : decide (t131 = t132) = false := by simpa using c9))
      (try (have c9b2 : (t131 == t132) = false := by simpa using c9))
      (try (have c9b3 : ¬ (t131 = t132) := by simpa using c9))
      clear c9
      obtain rfl := Option.some.inj H
      go_enter Try.func11, Try.ntmps11
      go_wp2_with (first | ((with_reducible refine gate_callee (f := 13) rfl ?_); refine goesL_ (some 10) rfl rfl Try.func13 (by kernel_rfl) rfl #[] rfl (by (try simp only [List.map_toArray, List.map_cons, List.map_nil]); first | done | rfl | (simp only [List.length_drop, List.length_take]; rfl)) ?_; (with_reducible refine (corrallaw8_first.calls k  true _ A5.out).mono ?_); rintro e w28 ⟨rfl, hb⟩; refine ⟨_, rfl, ?_⟩; have n0_ := Aside0.mk (below_step (by repeat (first | (with_reducible first | exact HB.out | apply below_alloc | apply pw_below_drewN | apply below_drew1) | exact HB.out)) hb); clear HB; have HB := n0_; clear n0_; (try clear hb); (try clear hb2); (try clear hk); (try clear hi)) | (go_at_call 15; (with_reducible refine (pte_Bad.calls a0 t131 _ A7.out).mono ?_); rintro e w' ⟨rfl, ⟨nd, rfl⟩⟩) | (go_at_call 31; (with_reducible refine (corralref6_Bad.calls a0 t132 _ A8.out).mono ?_); rintro e w' ⟨rfl, ⟨nd, rfl⟩⟩))
      go_ret
      exact ⟨by first | rfl | (simp [errW_none, errW_some] <;> rfl) | (simp [*, errW_none, errW_some] <;> rfl), by repeat (first | (with_reducible first | exact HB.out | apply below_alloc | apply pw_below_drewN | apply below_drew1) | exact HB.out)⟩
  · replace c6 := Bool.eq_false_iff.mpr c6
    subst c6
    have H1 : (some false) = some r := by rw [if_neg (show ¬ (false = true) by decide)] at H; exact H
    clear H
    have H := H1
    clear H1
    obtain rfl := Option.some.inj H
    go_enter Try.func11, Try.ntmps11
    go_wp2_with (first | ((with_reducible refine gate_callee (f := 13) rfl ?_); refine goesL_ (some 10) rfl rfl Try.func13 (by kernel_rfl) rfl #[] rfl (by (try simp only [List.map_toArray, List.map_cons, List.map_nil]); first | done | rfl | (simp only [List.length_drop, List.length_take]; rfl)) ?_; (with_reducible refine (corrallaw8_first.calls k  false _ A5.out).mono ?_); rintro e w29 ⟨rfl, hb⟩; refine ⟨_, rfl, ?_⟩; have n0_ := Aside0.mk (below_step (by repeat (first | (with_reducible first | exact HB.out | apply below_alloc | apply pw_below_drewN | apply below_drew1) | exact HB.out)) hb); clear HB; have HB := n0_; clear n0_; (try clear hb); (try clear hb2); (try clear hk); (try clear hi)))
    go_ret
    exact ⟨by first | rfl | (simp [errW_none, errW_some] <;> rfl) | (simp [*, errW_none, errW_some] <;> rfl), by repeat (first | (with_reducible first | exact HB.out | apply below_alloc | apply pw_below_drewN | apply below_drew1) | exact HB.out)⟩

/-- THE ONE PURE STATEMENT of corrallaw8_PteSays: yours. -/
def corrallaw8_PteSays.Pure : Prop := ∀ (a0 : Int) (a1 : Int) (a2 : Int) (a3 : Bool), (Lit.int .u32 a0).wf = true → (Lit.int .i64 a1).wf = true → (Lit.int .i64 a2).wf = true → ∃ k, corrallaw8_PteSays.f k a0 a1 a2 a3 = some true
theorem corrallaw8_PteSays.walk (P : corrallaw8_PteSays.Pure) (a0 : Int) (a1 : Int) (a2 : Int) (a3 : Bool) (w : World) (w0 : (Lit.int .u32 a0).wf = true) (w1 : (Lit.int .i64 a1).wf = true) (w2 : (Lit.int .i64 a2).wf = true) :
    Calls Try.prog 11 #[.int .u32 a0, .int .i64 a1, .int .i64 a2, .bool a3] w fun e w' => e = .returned (.bool true) ∧ Below w.heap.size w w' := by
  obtain ⟨k, h⟩ := P a0 a1 a2 a3 w0 w1 w2
  refine (corrallaw8_PteSays.calls k a0 a1 a2 a3 true w h).mono ?_
  rintro e w' ⟨rfl, hd⟩
  exact ⟨rfl, hd⟩

end Go.Proofs.Ythpaieglgjjbiaa.QPteSays
