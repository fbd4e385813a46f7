-- Laid by a program of this session (wip/tpl/mine.sh), out of the program's form in Lean: Lean checks it.
import Derived.Test.YtcaohimipkoapaaQCsrReturnsx0
import Derived.Test.YtcaohimipkoapaaQCsrReturnsx1
namespace Go.Proofs.Ytcaohimipkoapaa.QCsrReturns
open Go.RowKit Go.Proofs.YtcaohimipkoapaaW.PrintWords Go.Proofs.YtcaohimipkoapaaW.PrintLast Go.Proofs.YtcaohimipkoapaaW.PrintMore
attribute [local go_sem] max2_int min2_int max_two min_two max_three min_three max_four min_four   -- for this text's walks alone
set_option linter.unusedVariables false
set_option linter.unusedSimpArgs false

/-! ### csr_File_Get: function 23 -/
def csr_File_Get.f (s0_0 : Bool) (s0_1 : Int) (s0_2 : Int) (s0_3 : Int) (s0_4 : Int) (s0_5 : Int) (s0_6 : Int) (s0_7 : Int) (s0_8 : Int) (s0_9 : Int) (s0_10 : Int) (a1 : Int) : Option (Int × Bool × Bool × Int × Int × Int × Int × Int × Int × Int × Int × Int × Int) := if s0_0 = true then (some (0, false, s0_0, s0_1, s0_2, s0_3, s0_4, s0_5, s0_6, s0_7, s0_8, s0_9, s0_10)) else (if a1 = 384 then (some (s0_1, true, s0_0, s0_1, s0_2, s0_3, s0_4, s0_5, s0_6, s0_7, s0_8, s0_9, s0_10)) else (if a1 = 768 then (some (s0_2, true, s0_0, s0_1, s0_2, s0_3, s0_4, s0_5, s0_6, s0_7, s0_8, s0_9, s0_10)) else (if a1 = 772 then (some (s0_3, true, s0_0, s0_1, s0_2, s0_3, s0_4, s0_5, s0_6, s0_7, s0_8, s0_9, s0_10)) else (if a1 = 773 then (some (s0_4, true, s0_0, s0_1, s0_2, s0_3, s0_4, s0_5, s0_6, s0_7, s0_8, s0_9, s0_10)) else (if a1 = 832 then (some (s0_5, true, s0_0, s0_1, s0_2, s0_3, s0_4, s0_5, s0_6, s0_7, s0_8, s0_9, s0_10)) else (if a1 = 833 then (some (s0_6, true, s0_0, s0_1, s0_2, s0_3, s0_4, s0_5, s0_6, s0_7, s0_8, s0_9, s0_10)) else (if a1 = 834 then (some (s0_7, true, s0_0, s0_1, s0_2, s0_3, s0_4, s0_5, s0_6, s0_7, s0_8, s0_9, s0_10)) else (if a1 = 835 then (some (s0_8, true, s0_0, s0_1, s0_2, s0_3, s0_4, s0_5, s0_6, s0_7, s0_8, s0_9, s0_10)) else (if a1 = 836 then (some (s0_9, true, s0_0, s0_1, s0_2, s0_3, s0_4, s0_5, s0_6, s0_7, s0_8, s0_9, s0_10)) else (if a1 = 3860 then (some (s0_10, true, s0_0, s0_1, s0_2, s0_3, s0_4, s0_5, s0_6, s0_7, s0_8, s0_9, s0_10)) else (some (0, false, s0_0, s0_1, s0_2, s0_3, s0_4, s0_5, s0_6, s0_7, s0_8, s0_9, s0_10))))))))))))
set_option maxHeartbeats 8000000 in
set_option maxRecDepth 100000 in
theorem csr_File_Get.calls (g : Nat) (s0_0 : Bool) (s0_1 : Int) (s0_2 : Int) (s0_3 : Int) (s0_4 : Int) (s0_5 : Int) (s0_6 : Int) (s0_7 : Int) (s0_8 : Int) (s0_9 : Int) (s0_10 : Int) (a1 : Int) (r1 : Int) (r2 : Bool) (r3 : Bool) (r4 : Int) (r5 : Int) (r6 : Int) (r7 : Int) (r8 : Int) (r9 : Int) (r10 : Int) (r11 : Int) (r12 : Int) (r13 : Int) (w0 w : World) (hI : IsS38 w0 w g s0_0 s0_1 s0_2 s0_3 s0_4 s0_5 s0_6 s0_7 s0_8 s0_9 s0_10) (hB : Below w0.heap.size w0 w) (h : csr_File_Get.f s0_0 s0_1 s0_2 s0_3 s0_4 s0_5 s0_6 s0_7 s0_8 s0_9 s0_10 a1 = some (r1, r2, r3, r4, r5, r6, r7, r8, r9, r10, r11, r12, r13)) :
    Calls Try.prog 23 #[.pointer (some ⟨g, 0, none⟩), .int .i64 a1] w fun e w' => e = .returned (.tuple #[.int .u32 r1, .bool r2]) ∧ IsS38 w0 w' g r3 r4 r5 r6 r7 r8 r9 r10 r11 r12 r13 ∧ Below w0.heap.size w0 w' ∧ KeepBut w w' g none := by
  have HI0 := Aside0.mk hI
  have HK := Aside0.mk (KeepBut.refl w g none)
  have HL := Aside0.mk hB.size
  clear hI
  have HW0 := Aside0.mk hB.size
  have HB := Aside0.mk hB
  clear hB
  have H : (if s0_0 = true then (some (0, false, s0_0, s0_1, s0_2, s0_3, s0_4, s0_5, s0_6, s0_7, s0_8, s0_9, s0_10)) else (if a1 = 384 then (some (s0_1, true, s0_0, s0_1, s0_2, s0_3, s0_4, s0_5, s0_6, s0_7, s0_8, s0_9, s0_10)) else (if a1 = 768 then (some (s0_2, true, s0_0, s0_1, s0_2, s0_3, s0_4, s0_5, s0_6, s0_7, s0_8, s0_9, s0_10)) else (if a1 = 772 then (some (s0_3, true, s0_0, s0_1, s0_2, s0_3, s0_4, s0_5, s0_6, s0_7, s0_8, s0_9, s0_10)) else (if a1 = 773 then (some (s0_4, true, s0_0, s0_1, s0_2, s0_3, s0_4, s0_5, s0_6, s0_7, s0_8, s0_9, s0_10)) else (if a1 = 832 then (some (s0_5, true, s0_0, s0_1, s0_2, s0_3, s0_4, s0_5, s0_6, s0_7, s0_8, s0_9, s0_10)) else (if a1 = 833 then (some (s0_6, true, s0_0, s0_1, s0_2, s0_3, s0_4, s0_5, s0_6, s0_7, s0_8, s0_9, s0_10)) else (if a1 = 834 then (some (s0_7, true, s0_0, s0_1, s0_2, s0_3, s0_4, s0_5, s0_6, s0_7, s0_8, s0_9, s0_10)) else (if a1 = 835 then (some (s0_8, true, s0_0, s0_1, s0_2, s0_3, s0_4, s0_5, s0_6, s0_7, s0_8, s0_9, s0_10)) else (if a1 = 836 then (some (s0_9, true, s0_0, s0_1, s0_2, s0_3, s0_4, s0_5, s0_6, s0_7, s0_8, s0_9, s0_10)) else (if a1 = 3860 then (some (s0_10, true, s0_0, s0_1, s0_2, s0_3, s0_4, s0_5, s0_6, s0_7, s0_8, s0_9, s0_10)) else (some (0, false, s0_0, s0_1, s0_2, s0_3, s0_4, s0_5, s0_6, s0_7, s0_8, s0_9, s0_10))))))))))))) = some (r1, r2, r3, r4, r5, r6, r7, r8, r9, r10, r11, r12, r13) := h
  clear h
  by_cases c3 : s0_0 = true
  · subst c3
    have H1 : (some (0, false, true, s0_1, s0_2, s0_3, s0_4, s0_5, s0_6, s0_7, s0_8, s0_9, s0_10)) = some (r1, r2, r3, r4, r5, r6, r7, r8, r9, r10, r11, r12, r13) := by rw [if_pos rfl] at H; exact H
    clear H
    have H := H1
    clear H1
    simp only [Option.some.injEq, Prod.mk.injEq] at H
    obtain ⟨rfl, rfl, rfl, rfl, rfl, rfl, rfl, rfl, rfl, rfl, rfl, rfl, rfl⟩ := H
    obtain ⟨HGz4, hgz4⟩ := HI0.out
    have hcz4_0 := cellS38_0 HGz4
    have hcz4_1 := cellS38_1 HGz4
    have hcz4_2 := cellS38_2 HGz4
    have hcz4_3 := cellS38_3 HGz4
    have hcz4_4 := cellS38_4 HGz4
    have hcz4_5 := cellS38_5 HGz4
    have hcz4_6 := cellS38_6 HGz4
    have hcz4_7 := cellS38_7 HGz4
    have hcz4_8 := cellS38_8 HGz4
    have hcz4_9 := cellS38_9 HGz4
    have hcz4_10 := cellS38_10 HGz4
    have hfz4_0 := blk_frozen HGz4 0
    have hfz4_1 := blk_frozen HGz4 1
    have hfz4_2 := blk_frozen HGz4 2
    have hfz4_3 := blk_frozen HGz4 3
    have hfz4_4 := blk_frozen HGz4 4
    have hfz4_5 := blk_frozen HGz4 5
    have hfz4_6 := blk_frozen HGz4 6
    have hfz4_7 := blk_frozen HGz4 7
    have hfz4_8 := blk_frozen HGz4 8
    have hfz4_9 := blk_frozen HGz4 9
    have hfz4_10 := blk_frozen HGz4 10
    clear HGz4 hgz4
    obtain ⟨p_, hp_⟩ : ∃ p_, atP g a1 = p_ := ⟨_, rfl⟩
    rcases p_ with _ | ad_
    all_goals (go_enter Try.func23, Try.ntmps23; go_wp2_with (first | ((with_reducible refine gate_callee (f := 48) rfl ?_); refine goesL_ (some 9) rfl rfl Try.func48 (by kernel_rfl) rfl #[.pointer (some ⟨g, 0, none⟩), .int .i64 a1] rfl (by (try simp only [List.map_toArray, List.map_cons, List.map_nil]); first | done | rfl) ?_; (with_reducible refine (csr_File_at.calls g a1 _ _ hp_).mono ?_); rintro e w' ⟨rfl, ⟨nd, rfl⟩⟩; refine ⟨_, rfl, ?_⟩)); go_ret2; exact ⟨by first | rfl | (simp [errW_none, errW_some] <;> rfl) | (simp [*, errW_none, errW_some] <;> rfl), by repeat (first | (with_reducible first | exact HI0.out | apply IsS38.alloc | apply IsS38.drewN | apply IsS38.drew | apply IsS38.set_0 | apply IsS38.set_1 | apply IsS38.set_2 | apply IsS38.set_3 | apply IsS38.set_4 | apply IsS38.set_5 | apply IsS38.set_6 | apply IsS38.set_7 | apply IsS38.set_8 | apply IsS38.set_9 | apply IsS38.set_10) | exact HI0.out), by repeat (first | (with_reducible first | exact HB.out | apply below_alloc | apply pw_below_drewN | apply below_drew1 | refine below_set ?_ (IsS38.ge HI0.out)) | exact HB.out), by repeat (first | (with_reducible first | exact HK.out | apply KeepBut.set_ | apply keep_drewN | apply keep_drew | apply keep_alloc) | exact HK.out)⟩)
  · replace c3 := Bool.eq_false_iff.mpr c3
    subst c3
    have H1 : (if a1 = 384 then (some (s0_1, true, false, s0_1, s0_2, s0_3, s0_4, s0_5, s0_6, s0_7, s0_8, s0_9, s0_10)) else (if a1 = 768 then (some (s0_2, true, false, s0_1, s0_2, s0_3, s0_4, s0_5, s0_6, s0_7, s0_8, s0_9, s0_10)) else (if a1 = 772 then (some (s0_3, true, false, s0_1, s0_2, s0_3, s0_4, s0_5, s0_6, s0_7, s0_8, s0_9, s0_10)) else (if a1 = 773 then (some (s0_4, true, false, s0_1, s0_2, s0_3, s0_4, s0_5, s0_6, s0_7, s0_8, s0_9, s0_10)) else (if a1 = 832 then (some (s0_5, true, false, s0_1, s0_2, s0_3, s0_4, s0_5, s0_6, s0_7, s0_8, s0_9, s0_10)) else (if a1 = 833 then (some (s0_6, true, false, s0_1, s0_2, s0_3, s0_4, s0_5, s0_6, s0_7, s0_8, s0_9, s0_10)) else (if a1 = 834 then (some (s0_7, true, false, s0_1, s0_2, s0_3, s0_4, s0_5, s0_6, s0_7, s0_8, s0_9, s0_10)) else (if a1 = 835 then (some (s0_8, true, false, s0_1, s0_2, s0_3, s0_4, s0_5, s0_6, s0_7, s0_8, s0_9, s0_10)) else (if a1 = 836 then (some (s0_9, true, false, s0_1, s0_2, s0_3, s0_4, s0_5, s0_6, s0_7, s0_8, s0_9, s0_10)) else (if a1 = 3860 then (some (s0_10, true, false, s0_1, s0_2, s0_3, s0_4, s0_5, s0_6, s0_7, s0_8, s0_9, s0_10)) else (some (0, false, false, s0_1, s0_2, s0_3, s0_4, s0_5, s0_6, s0_7, s0_8, s0_9, s0_10)))))))))))) = some (r1, r2, r3, r4, r5, r6, r7, r8, r9, r10, r11, r12, r13) := by rw [if_neg (show ¬ (false = true) by decide)] at H; exact H
    clear H
    have H := H1
    clear H1
    by_cases c5 : a1 = 384
    · rw [if_pos c5] at H
      have c5b0 : (a1 == 384) = true := beq_iff_eq.mpr c5
      have c5b1 : (a1 != 384) = false := bne_eq_false_iff_eq.mpr c5
      clear c5
      simp only [Option.some.injEq, Prod.mk.injEq] at H
      obtain ⟨rfl, rfl, rfl, rfl, rfl, rfl, rfl, rfl, rfl, rfl, rfl, rfl, rfl⟩ := H
      obtain ⟨HGz6, hgz6⟩ := HI0.out
      have hcz6_0 := cellS38_0 HGz6
      have hcz6_1 := cellS38_1 HGz6
      have hcz6_2 := cellS38_2 HGz6
      have hcz6_3 := cellS38_3 HGz6
      have hcz6_4 := cellS38_4 HGz6
      have hcz6_5 := cellS38_5 HGz6
      have hcz6_6 := cellS38_6 HGz6
      have hcz6_7 := cellS38_7 HGz6
      have hcz6_8 := cellS38_8 HGz6
      have hcz6_9 := cellS38_9 HGz6
      have hcz6_10 := cellS38_10 HGz6
      have hfz6_0 := blk_frozen HGz6 0
      have hfz6_1 := blk_frozen HGz6 1
      have hfz6_2 := blk_frozen HGz6 2
      have hfz6_3 := blk_frozen HGz6 3
      have hfz6_4 := blk_frozen HGz6 4
      have hfz6_5 := blk_frozen HGz6 5
      have hfz6_6 := blk_frozen HGz6 6
      have hfz6_7 := blk_frozen HGz6 7
      have hfz6_8 := blk_frozen HGz6 8
      have hfz6_9 := blk_frozen HGz6 9
      have hfz6_10 := blk_frozen HGz6 10
      clear HGz6 hgz6
      have hp_ : atP g a1 = some ⟨g, 1, none⟩ := by unfold atP; simp only [c5b0, Bool.false_eq_true, if_true, if_false]
      go_enter Try.func23, Try.ntmps23
      go_wp2_with (first | ((with_reducible refine gate_callee (f := 48) rfl ?_); refine goesL_ (some 9) rfl rfl Try.func48 (by kernel_rfl) rfl #[.pointer (some ⟨g, 0, none⟩), .int .i64 a1] rfl (by (try simp only [List.map_toArray, List.map_cons, List.map_nil]); first | done | rfl) ?_; (with_reducible refine (csr_File_at.calls g a1 _ _ hp_).mono ?_); rintro e w' ⟨rfl, ⟨nd, rfl⟩⟩; refine ⟨_, rfl, ?_⟩))
      go_ret2
      exact ⟨by first | rfl | (simp [errW_none, errW_some] <;> rfl) | (simp [*, errW_none, errW_some] <;> rfl), by repeat (first | (with_reducible first | exact HI0.out | apply IsS38.alloc | apply IsS38.drewN | apply IsS38.drew | apply IsS38.set_0 | apply IsS38.set_1 | apply IsS38.set_2 | apply IsS38.set_3 | apply IsS38.set_4 | apply IsS38.set_5 | apply IsS38.set_6 | apply IsS38.set_7 | apply IsS38.set_8 | apply IsS38.set_9 | apply IsS38.set_10) | exact HI0.out), by repeat (first | (with_reducible first | exact HB.out | apply below_alloc | apply pw_below_drewN | apply below_drew1 | refine below_set ?_ (IsS38.ge HI0.out)) | exact HB.out), by repeat (first | (with_reducible first | exact HK.out | apply KeepBut.set_ | apply keep_drewN | apply keep_drew | apply keep_alloc) | exact HK.out)⟩
    · rw [if_neg c5] at H
      have c5b0 : (a1 == 384) = false := beq_eq_false_iff_ne.mpr c5
      have c5b1 : (a1 != 384) = true := bne_iff_ne.mpr c5
      by_cases c7 : a1 = 768
      · rw [if_pos c7] at H
        have c7b0 : (a1 == 768) = true := beq_iff_eq.mpr c7
        have c7b1 : (a1 != 768) = false := bne_eq_false_iff_eq.mpr c7
        clear c7
        simp only [Option.some.injEq, Prod.mk.injEq] at H
        obtain ⟨rfl, rfl, rfl, rfl, rfl, rfl, rfl, rfl, rfl, rfl, rfl, rfl, rfl⟩ := H
        obtain ⟨HGz8, hgz8⟩ := HI0.out
        have hcz8_0 := cellS38_0 HGz8
        have hcz8_1 := cellS38_1 HGz8
        have hcz8_2 := cellS38_2 HGz8
        have hcz8_3 := cellS38_3 HGz8
        have hcz8_4 := cellS38_4 HGz8
        have hcz8_5 := cellS38_5 HGz8
        have hcz8_6 := cellS38_6 HGz8
        have hcz8_7 := cellS38_7 HGz8
        have hcz8_8 := cellS38_8 HGz8
        have hcz8_9 := cellS38_9 HGz8
        have hcz8_10 := cellS38_10 HGz8
        have hfz8_0 := blk_frozen HGz8 0
        have hfz8_1 := blk_frozen HGz8 1
        have hfz8_2 := blk_frozen HGz8 2
        have hfz8_3 := blk_frozen HGz8 3
        have hfz8_4 := blk_frozen HGz8 4
        have hfz8_5 := blk_frozen HGz8 5
        have hfz8_6 := blk_frozen HGz8 6
        have hfz8_7 := blk_frozen HGz8 7
        have hfz8_8 := blk_frozen HGz8 8
        have hfz8_9 := blk_frozen HGz8 9
        have hfz8_10 := blk_frozen HGz8 10
        clear HGz8 hgz8
        have hp_ : atP g a1 = some ⟨g, 2, none⟩ := by unfold atP; simp only [c5b0, c7b0, Bool.false_eq_true, if_true, if_false]
        go_enter Try.func23, Try.ntmps23
        go_wp2_with (first | ((with_reducible refine gate_callee (f := 48) rfl ?_); refine goesL_ (some 9) rfl rfl Try.func48 (by kernel_rfl) rfl #[.pointer (some ⟨g, 0, none⟩), .int .i64 a1] rfl (by (try simp only [List.map_toArray, List.map_cons, List.map_nil]); first | done | rfl) ?_; (with_reducible refine (csr_File_at.calls g a1 _ _ hp_).mono ?_); rintro e w' ⟨rfl, ⟨nd, rfl⟩⟩; refine ⟨_, rfl, ?_⟩))
        go_ret2
        exact ⟨by first | rfl | (simp [errW_none, errW_some] <;> rfl) | (simp [*, errW_none, errW_some] <;> rfl), by repeat (first | (with_reducible first | exact HI0.out | apply IsS38.alloc | apply IsS38.drewN | apply IsS38.drew | apply IsS38.set_0 | apply IsS38.set_1 | apply IsS38.set_2 | apply IsS38.set_3 | apply IsS38.set_4 | apply IsS38.set_5 | apply IsS38.set_6 | apply IsS38.set_7 | apply IsS38.set_8 | apply IsS38.set_9 | apply IsS38.set_10) | exact HI0.out), by repeat (first | (with_reducible first | exact HB.out | apply below_alloc | apply pw_below_drewN | apply below_drew1 | refine below_set ?_ (IsS38.ge HI0.out)) | exact HB.out), by repeat (first | (with_reducible first | exact HK.out | apply KeepBut.set_ | apply keep_drewN | apply keep_drew | apply keep_alloc) | exact HK.out)⟩
      · rw [if_neg c7] at H
        have c7b0 : (a1 == 768) = false := beq_eq_false_iff_ne.mpr c7
        have c7b1 : (a1 != 768) = true := bne_iff_ne.mpr c7
        by_cases c9 : a1 = 772
        · rw [if_pos c9] at H
          have c9b0 : (a1 == 772) = true := beq_iff_eq.mpr c9
          have c9b1 : (a1 != 772) = false := bne_eq_false_iff_eq.mpr c9
          clear c9
          simp only [Option.some.injEq, Prod.mk.injEq] at H
          obtain ⟨rfl, rfl, rfl, rfl, rfl, rfl, rfl, rfl, rfl, rfl, rfl, rfl, rfl⟩ := H
          obtain ⟨HGz10, hgz10⟩ := HI0.out
          have hcz10_0 := cellS38_0 HGz10
          have hcz10_1 := cellS38_1 HGz10
          have hcz10_2 := cellS38_2 HGz10
          have hcz10_3 := cellS38_3 HGz10
          have hcz10_4 := cellS38_4 HGz10
          have hcz10_5 := cellS38_5 HGz10
          have hcz10_6 := cellS38_6 HGz10
          have hcz10_7 := cellS38_7 HGz10
          have hcz10_8 := cellS38_8 HGz10
          have hcz10_9 := cellS38_9 HGz10
          have hcz10_10 := cellS38_10 HGz10
          have hfz10_0 := blk_frozen HGz10 0
          have hfz10_1 := blk_frozen HGz10 1
          have hfz10_2 := blk_frozen HGz10 2
          have hfz10_3 := blk_frozen HGz10 3
          have hfz10_4 := blk_frozen HGz10 4
          have hfz10_5 := blk_frozen HGz10 5
          have hfz10_6 := blk_frozen HGz10 6
          have hfz10_7 := blk_frozen HGz10 7
          have hfz10_8 := blk_frozen HGz10 8
          have hfz10_9 := blk_frozen HGz10 9
          have hfz10_10 := blk_frozen HGz10 10
          clear HGz10 hgz10
          have hp_ : atP g a1 = some ⟨g, 3, none⟩ := by unfold atP; simp only [c5b0, c7b0, c9b0, Bool.false_eq_true, if_true, if_false]
          go_enter Try.func23, Try.ntmps23
          go_wp2_with (first | ((with_reducible refine gate_callee (f := 48) rfl ?_); refine goesL_ (some 9) rfl rfl Try.func48 (by kernel_rfl) rfl #[.pointer (some ⟨g, 0, none⟩), .int .i64 a1] rfl (by (try simp only [List.map_toArray, List.map_cons, List.map_nil]); first | done | rfl) ?_; (with_reducible refine (csr_File_at.calls g a1 _ _ hp_).mono ?_); rintro e w' ⟨rfl, ⟨nd, rfl⟩⟩; refine ⟨_, rfl, ?_⟩))
          go_ret2
          exact ⟨by first | rfl | (simp [errW_none, errW_some] <;> rfl) | (simp [*, errW_none, errW_some] <;> rfl), by repeat (first | (with_reducible first | exact HI0.out | apply IsS38.alloc | apply IsS38.drewN | apply IsS38.drew | apply IsS38.set_0 | apply IsS38.set_1 | apply IsS38.set_2 | apply IsS38.set_3 | apply IsS38.set_4 | apply IsS38.set_5 | apply IsS38.set_6 | apply IsS38.set_7 | apply IsS38.set_8 | apply IsS38.set_9 | apply IsS38.set_10) | exact HI0.out), by repeat (first | (with_reducible first | exact HB.out | apply below_alloc | apply pw_below_drewN | apply below_drew1 | refine below_set ?_ (IsS38.ge HI0.out)) | exact HB.out), by repeat (first | (with_reducible first | exact HK.out | apply KeepBut.set_ | apply keep_drewN | apply keep_drew | apply keep_alloc) | exact HK.out)⟩
        · rw [if_neg c9] at H
          have c9b0 : (a1 == 772) = false := beq_eq_false_iff_ne.mpr c9
          have c9b1 : (a1 != 772) = true := bne_iff_ne.mpr c9
          by_cases c11 : a1 = 773
          · rw [if_pos c11] at H
            have c11b0 : (a1 == 773) = true := beq_iff_eq.mpr c11
            have c11b1 : (a1 != 773) = false := bne_eq_false_iff_eq.mpr c11
            clear c11
            simp only [Option.some.injEq, Prod.mk.injEq] at H
            obtain ⟨rfl, rfl, rfl, rfl, rfl, rfl, rfl, rfl, rfl, rfl, rfl, rfl, rfl⟩ := H
            obtain ⟨HGz12, hgz12⟩ := HI0.out
            have hcz12_0 := cellS38_0 HGz12
            have hcz12_1 := cellS38_1 HGz12
            have hcz12_2 := cellS38_2 HGz12
            have hcz12_3 := cellS38_3 HGz12
            have hcz12_4 := cellS38_4 HGz12
            have hcz12_5 := cellS38_5 HGz12
            have hcz12_6 := cellS38_6 HGz12
            have hcz12_7 := cellS38_7 HGz12
            have hcz12_8 := cellS38_8 HGz12
            have hcz12_9 := cellS38_9 HGz12
            have hcz12_10 := cellS38_10 HGz12
            have hfz12_0 := blk_frozen HGz12 0
            have hfz12_1 := blk_frozen HGz12 1
            have hfz12_2 := blk_frozen HGz12 2
            have hfz12_3 := blk_frozen HGz12 3
            have hfz12_4 := blk_frozen HGz12 4
            have hfz12_5 := blk_frozen HGz12 5
            have hfz12_6 := blk_frozen HGz12 6
            have hfz12_7 := blk_frozen HGz12 7
            have hfz12_8 := blk_frozen HGz12 8
            have hfz12_9 := blk_frozen HGz12 9
            have hfz12_10 := blk_frozen HGz12 10
            clear HGz12 hgz12
            have hp_ : atP g a1 = some ⟨g, 4, none⟩ := by unfold atP; simp only [c5b0, c7b0, c9b0, c11b0, Bool.false_eq_true, if_true, if_false]
            go_enter Try.func23, Try.ntmps23
            go_wp2_with (first | ((with_reducible refine gate_callee (f := 48) rfl ?_); refine goesL_ (some 9) rfl rfl Try.func48 (by kernel_rfl) rfl #[.pointer (some ⟨g, 0, none⟩), .int .i64 a1] rfl (by (try simp only [List.map_toArray, List.map_cons, List.map_nil]); first | done | rfl) ?_; (with_reducible refine (csr_File_at.calls g a1 _ _ hp_).mono ?_); rintro e w' ⟨rfl, ⟨nd, rfl⟩⟩; refine ⟨_, rfl, ?_⟩))
            go_ret2
            exact ⟨by first | rfl | (simp [errW_none, errW_some] <;> rfl) | (simp [*, errW_none, errW_some] <;> rfl), by repeat (first | (with_reducible first | exact HI0.out | apply IsS38.alloc | apply IsS38.drewN | apply IsS38.drew | apply IsS38.set_0 | apply IsS38.set_1 | apply IsS38.set_2 | apply IsS38.set_3 | apply IsS38.set_4 | apply IsS38.set_5 | apply IsS38.set_6 | apply IsS38.set_7 | apply IsS38.set_8 | apply IsS38.set_9 | apply IsS38.set_10) | exact HI0.out), by repeat (first | (with_reducible first | exact HB.out | apply below_alloc | apply pw_below_drewN | apply below_drew1 | refine below_set ?_ (IsS38.ge HI0.out)) | exact HB.out), by repeat (first | (with_reducible first | exact HK.out | apply KeepBut.set_ | apply keep_drewN | apply keep_drew | apply keep_alloc) | exact HK.out)⟩
          · rw [if_neg c11] at H
            have c11b0 : (a1 == 773) = false := beq_eq_false_iff_ne.mpr c11
            have c11b1 : (a1 != 773) = true := bne_iff_ne.mpr c11
            by_cases c13 : a1 = 832
            · rw [if_pos c13] at H
              have c13b0 : (a1 == 832) = true := beq_iff_eq.mpr c13
              have c13b1 : (a1 != 832) = false := bne_eq_false_iff_eq.mpr c13
              clear c13
              simp only [Option.some.injEq, Prod.mk.injEq] at H
              obtain ⟨rfl, rfl, rfl, rfl, rfl, rfl, rfl, rfl, rfl, rfl, rfl, rfl, rfl⟩ := H
              obtain ⟨HGz14, hgz14⟩ := HI0.out
              have hcz14_0 := cellS38_0 HGz14
              have hcz14_1 := cellS38_1 HGz14
              have hcz14_2 := cellS38_2 HGz14
              have hcz14_3 := cellS38_3 HGz14
              have hcz14_4 := cellS38_4 HGz14
              have hcz14_5 := cellS38_5 HGz14
              have hcz14_6 := cellS38_6 HGz14
              have hcz14_7 := cellS38_7 HGz14
              have hcz14_8 := cellS38_8 HGz14
              have hcz14_9 := cellS38_9 HGz14
              have hcz14_10 := cellS38_10 HGz14
              have hfz14_0 := blk_frozen HGz14 0
              have hfz14_1 := blk_frozen HGz14 1
              have hfz14_2 := blk_frozen HGz14 2
              have hfz14_3 := blk_frozen HGz14 3
              have hfz14_4 := blk_frozen HGz14 4
              have hfz14_5 := blk_frozen HGz14 5
              have hfz14_6 := blk_frozen HGz14 6
              have hfz14_7 := blk_frozen HGz14 7
              have hfz14_8 := blk_frozen HGz14 8
              have hfz14_9 := blk_frozen HGz14 9
              have hfz14_10 := blk_frozen HGz14 10
              clear HGz14 hgz14
              have hp_ : atP g a1 = some ⟨g, 5, none⟩ := by unfold atP; simp only [c5b0, c7b0, c9b0, c11b0, c13b0, Bool.false_eq_true, if_true, if_false]
              go_enter Try.func23, Try.ntmps23
              go_wp2_with (first | ((with_reducible refine gate_callee (f := 48) rfl ?_); refine goesL_ (some 9) rfl rfl Try.func48 (by kernel_rfl) rfl #[.pointer (some ⟨g, 0, none⟩), .int .i64 a1] rfl (by (try simp only [List.map_toArray, List.map_cons, List.map_nil]); first | done | rfl) ?_; (with_reducible refine (csr_File_at.calls g a1 _ _ hp_).mono ?_); rintro e w' ⟨rfl, ⟨nd, rfl⟩⟩; refine ⟨_, rfl, ?_⟩))
              go_ret2
              exact ⟨by first | rfl | (simp [errW_none, errW_some] <;> rfl) | (simp [*, errW_none, errW_some] <;> rfl), by repeat (first | (with_reducible first | exact HI0.out | apply IsS38.alloc | apply IsS38.drewN | apply IsS38.drew | apply IsS38.set_0 | apply IsS38.set_1 | apply IsS38.set_2 | apply IsS38.set_3 | apply IsS38.set_4 | apply IsS38.set_5 | apply IsS38.set_6 | apply IsS38.set_7 | apply IsS38.set_8 | apply IsS38.set_9 | apply IsS38.set_10) | exact HI0.out), by repeat (first | (with_reducible first | exact HB.out | apply below_alloc | apply pw_below_drewN | apply below_drew1 | refine below_set ?_ (IsS38.ge HI0.out)) | exact HB.out), by repeat (first | (with_reducible first | exact HK.out | apply KeepBut.set_ | apply keep_drewN | apply keep_drew | apply keep_alloc) | exact HK.out)⟩
            · rw [if_neg c13] at H
              have c13b0 : (a1 == 832) = false := beq_eq_false_iff_ne.mpr c13
              have c13b1 : (a1 != 832) = true := bne_iff_ne.mpr c13
              by_cases c15 : a1 = 833
              · rw [if_pos c15] at H
                have c15b0 : (a1 == 833) = true := beq_iff_eq.mpr c15
                have c15b1 : (a1 != 833) = false := bne_eq_false_iff_eq.mpr c15
                clear c15
                simp only [Option.some.injEq, Prod.mk.injEq] at H
                obtain ⟨rfl, rfl, rfl, rfl, rfl, rfl, rfl, rfl, rfl, rfl, rfl, rfl, rfl⟩ := H
                obtain ⟨HGz16, hgz16⟩ := HI0.out
                have hcz16_0 := cellS38_0 HGz16
                have hcz16_1 := cellS38_1 HGz16
                have hcz16_2 := cellS38_2 HGz16
                have hcz16_3 := cellS38_3 HGz16
                have hcz16_4 := cellS38_4 HGz16
                have hcz16_5 := cellS38_5 HGz16
                have hcz16_6 := cellS38_6 HGz16
                have hcz16_7 := cellS38_7 HGz16
                have hcz16_8 := cellS38_8 HGz16
                have hcz16_9 := cellS38_9 HGz16
                have hcz16_10 := cellS38_10 HGz16
                have hfz16_0 := blk_frozen HGz16 0
                have hfz16_1 := blk_frozen HGz16 1
                have hfz16_2 := blk_frozen HGz16 2
                have hfz16_3 := blk_frozen HGz16 3
                have hfz16_4 := blk_frozen HGz16 4
                have hfz16_5 := blk_frozen HGz16 5
                have hfz16_6 := blk_frozen HGz16 6
                have hfz16_7 := blk_frozen HGz16 7
                have hfz16_8 := blk_frozen HGz16 8
                have hfz16_9 := blk_frozen HGz16 9
                have hfz16_10 := blk_frozen HGz16 10
                clear HGz16 hgz16
                have hp_ : atP g a1 = some ⟨g, 6, none⟩ := by unfold atP; simp only [c5b0, c7b0, c9b0, c11b0, c13b0, c15b0, Bool.false_eq_true, if_true, if_false]
                go_enter Try.func23, Try.ntmps23
                go_wp2_with (first | ((with_reducible refine gate_callee (f := 48) rfl ?_); refine goesL_ (some 9) rfl rfl Try.func48 (by kernel_rfl) rfl #[.pointer (some ⟨g, 0, none⟩), .int .i64 a1] rfl (by (try simp only [List.map_toArray, List.map_cons, List.map_nil]); first | done | rfl) ?_; (with_reducible refine (csr_File_at.calls g a1 _ _ hp_).mono ?_); rintro e w' ⟨rfl, ⟨nd, rfl⟩⟩; refine ⟨_, rfl, ?_⟩))
                go_ret2
                exact ⟨by first | rfl | (simp [errW_none, errW_some] <;> rfl) | (simp [*, errW_none, errW_some] <;> rfl), by repeat (first | (with_reducible first | exact HI0.out | apply IsS38.alloc | apply IsS38.drewN | apply IsS38.drew | apply IsS38.set_0 | apply IsS38.set_1 | apply IsS38.set_2 | apply IsS38.set_3 | apply IsS38.set_4 | apply IsS38.set_5 | apply IsS38.set_6 | apply IsS38.set_7 | apply IsS38.set_8 | apply IsS38.set_9 | apply IsS38.set_10) | exact HI0.out), by repeat (first | (with_reducible first | exact HB.out | apply below_alloc | apply pw_below_drewN | apply below_drew1 | refine below_set ?_ (IsS38.ge HI0.out)) | exact HB.out), by repeat (first | (with_reducible first | exact HK.out | apply KeepBut.set_ | apply keep_drewN | apply keep_drew | apply keep_alloc) | exact HK.out)⟩
              · rw [if_neg c15] at H
                have c15b0 : (a1 == 833) = false := beq_eq_false_iff_ne.mpr c15
                have c15b1 : (a1 != 833) = true := bne_iff_ne.mpr c15
                by_cases c17 : a1 = 834
                · rw [if_pos c17] at H
                  have c17b0 : (a1 == 834) = true := beq_iff_eq.mpr c17
                  have c17b1 : (a1 != 834) = false := bne_eq_false_iff_eq.mpr c17
                  clear c17
                  simp only [Option.some.injEq, Prod.mk.injEq] at H
                  obtain ⟨rfl, rfl, rfl, rfl, rfl, rfl, rfl, rfl, rfl, rfl, rfl, rfl, rfl⟩ := H
                  obtain ⟨HGz18, hgz18⟩ := HI0.out
                  have hcz18_0 := cellS38_0 HGz18
                  have hcz18_1 := cellS38_1 HGz18
                  have hcz18_2 := cellS38_2 HGz18
                  have hcz18_3 := cellS38_3 HGz18
                  have hcz18_4 := cellS38_4 HGz18
                  have hcz18_5 := cellS38_5 HGz18
                  have hcz18_6 := cellS38_6 HGz18
                  have hcz18_7 := cellS38_7 HGz18
                  have hcz18_8 := cellS38_8 HGz18
                  have hcz18_9 := cellS38_9 HGz18
                  have hcz18_10 := cellS38_10 HGz18
                  have hfz18_0 := blk_frozen HGz18 0
                  have hfz18_1 := blk_frozen HGz18 1
                  have hfz18_2 := blk_frozen HGz18 2
                  have hfz18_3 := blk_frozen HGz18 3
                  have hfz18_4 := blk_frozen HGz18 4
                  have hfz18_5 := blk_frozen HGz18 5
                  have hfz18_6 := blk_frozen HGz18 6
                  have hfz18_7 := blk_frozen HGz18 7
                  have hfz18_8 := blk_frozen HGz18 8
                  have hfz18_9 := blk_frozen HGz18 9
                  have hfz18_10 := blk_frozen HGz18 10
                  clear HGz18 hgz18
                  have hp_ : atP g a1 = some ⟨g, 7, none⟩ := by unfold atP; simp only [c5b0, c7b0, c9b0, c11b0, c13b0, c15b0, c17b0, Bool.false_eq_true, if_true, if_false]
                  go_enter Try.func23, Try.ntmps23
                  go_wp2_with (first | ((with_reducible refine gate_callee (f := 48) rfl ?_); refine goesL_ (some 9) rfl rfl Try.func48 (by kernel_rfl) rfl #[.pointer (some ⟨g, 0, none⟩), .int .i64 a1] rfl (by (try simp only [List.map_toArray, List.map_cons, List.map_nil]); first | done | rfl) ?_; (with_reducible refine (csr_File_at.calls g a1 _ _ hp_).mono ?_); rintro e w' ⟨rfl, ⟨nd, rfl⟩⟩; refine ⟨_, rfl, ?_⟩))
                  go_ret2
                  exact ⟨by first | rfl | (simp [errW_none, errW_some] <;> rfl) | (simp [*, errW_none, errW_some] <;> rfl), by repeat (first | (with_reducible first | exact HI0.out | apply IsS38.alloc | apply IsS38.drewN | apply IsS38.drew | apply IsS38.set_0 | apply IsS38.set_1 | apply IsS38.set_2 | apply IsS38.set_3 | apply IsS38.set_4 | apply IsS38.set_5 | apply IsS38.set_6 | apply IsS38.set_7 | apply IsS38.set_8 | apply IsS38.set_9 | apply IsS38.set_10) | exact HI0.out), by repeat (first | (with_reducible first | exact HB.out | apply below_alloc | apply pw_below_drewN | apply below_drew1 | refine below_set ?_ (IsS38.ge HI0.out)) | exact HB.out), by repeat (first | (with_reducible first | exact HK.out | apply KeepBut.set_ | apply keep_drewN | apply keep_drew | apply keep_alloc) | exact HK.out)⟩
                · rw [if_neg c17] at H
                  have c17b0 : (a1 == 834) = false := beq_eq_false_iff_ne.mpr c17
                  have c17b1 : (a1 != 834) = true := bne_iff_ne.mpr c17
                  by_cases c19 : a1 = 835
                  · rw [if_pos c19] at H
                    have c19b0 : (a1 == 835) = true := beq_iff_eq.mpr c19
                    have c19b1 : (a1 != 835) = false := bne_eq_false_iff_eq.mpr c19
                    clear c19
                    simp only [Option.some.injEq, Prod.mk.injEq] at H
                    obtain ⟨rfl, rfl, rfl, rfl, rfl, rfl, rfl, rfl, rfl, rfl, rfl, rfl, rfl⟩ := H
                    obtain ⟨HGz20, hgz20⟩ := HI0.out
                    have hcz20_0 := cellS38_0 HGz20
                    have hcz20_1 := cellS38_1 HGz20
                    have hcz20_2 := cellS38_2 HGz20
                    have hcz20_3 := cellS38_3 HGz20
                    have hcz20_4 := cellS38_4 HGz20
                    have hcz20_5 := cellS38_5 HGz20
                    have hcz20_6 := cellS38_6 HGz20
                    have hcz20_7 := cellS38_7 HGz20
                    have hcz20_8 := cellS38_8 HGz20
                    have hcz20_9 := cellS38_9 HGz20
                    have hcz20_10 := cellS38_10 HGz20
                    have hfz20_0 := blk_frozen HGz20 0
                    have hfz20_1 := blk_frozen HGz20 1
                    have hfz20_2 := blk_frozen HGz20 2
                    have hfz20_3 := blk_frozen HGz20 3
                    have hfz20_4 := blk_frozen HGz20 4
                    have hfz20_5 := blk_frozen HGz20 5
                    have hfz20_6 := blk_frozen HGz20 6
                    have hfz20_7 := blk_frozen HGz20 7
                    have hfz20_8 := blk_frozen HGz20 8
                    have hfz20_9 := blk_frozen HGz20 9
                    have hfz20_10 := blk_frozen HGz20 10
                    clear HGz20 hgz20
                    have hp_ : atP g a1 = some ⟨g, 8, none⟩ := by unfold atP; simp only [c5b0, c7b0, c9b0, c11b0, c13b0, c15b0, c17b0, c19b0, Bool.false_eq_true, if_true, if_false]
                    go_enter Try.func23, Try.ntmps23
                    go_wp2_with (first | ((with_reducible refine gate_callee (f := 48) rfl ?_); refine goesL_ (some 9) rfl rfl Try.func48 (by kernel_rfl) rfl #[.pointer (some ⟨g, 0, none⟩), .int .i64 a1] rfl (by (try simp only [List.map_toArray, List.map_cons, List.map_nil]); first | done | rfl) ?_; (with_reducible refine (csr_File_at.calls g a1 _ _ hp_).mono ?_); rintro e w' ⟨rfl, ⟨nd, rfl⟩⟩; refine ⟨_, rfl, ?_⟩))
                    go_ret2
                    exact ⟨by first | rfl | (simp [errW_none, errW_some] <;> rfl) | (simp [*, errW_none, errW_some] <;> rfl), by repeat (first | (with_reducible first | exact HI0.out | apply IsS38.alloc | apply IsS38.drewN | apply IsS38.drew | apply IsS38.set_0 | apply IsS38.set_1 | apply IsS38.set_2 | apply IsS38.set_3 | apply IsS38.set_4 | apply IsS38.set_5 | apply IsS38.set_6 | apply IsS38.set_7 | apply IsS38.set_8 | apply IsS38.set_9 | apply IsS38.set_10) | exact HI0.out), by repeat (first | (with_reducible first | exact HB.out | apply below_alloc | apply pw_below_drewN | apply below_drew1 | refine below_set ?_ (IsS38.ge HI0.out)) | exact HB.out), by repeat (first | (with_reducible first | exact HK.out | apply KeepBut.set_ | apply keep_drewN | apply keep_drew | apply keep_alloc) | exact HK.out)⟩
                  · rw [if_neg c19] at H
                    have c19b0 : (a1 == 835) = false := beq_eq_false_iff_ne.mpr c19
                    have c19b1 : (a1 != 835) = true := bne_iff_ne.mpr c19
                    by_cases c21 : a1 = 836
                    · rw [if_pos c21] at H
                      have c21b0 : (a1 == 836) = true := beq_iff_eq.mpr c21
                      have c21b1 : (a1 != 836) = false := bne_eq_false_iff_eq.mpr c21
                      clear c21
                      simp only [Option.some.injEq, Prod.mk.injEq] at H
                      obtain ⟨rfl, rfl, rfl, rfl, rfl, rfl, rfl, rfl, rfl, rfl, rfl, rfl, rfl⟩ := H
                      obtain ⟨HGz22, hgz22⟩ := HI0.out
                      have hcz22_0 := cellS38_0 HGz22
                      have hcz22_1 := cellS38_1 HGz22
                      have hcz22_2 := cellS38_2 HGz22
                      have hcz22_3 := cellS38_3 HGz22
                      have hcz22_4 := cellS38_4 HGz22
                      have hcz22_5 := cellS38_5 HGz22
                      have hcz22_6 := cellS38_6 HGz22
                      have hcz22_7 := cellS38_7 HGz22
                      have hcz22_8 := cellS38_8 HGz22
                      have hcz22_9 := cellS38_9 HGz22
                      have hcz22_10 := cellS38_10 HGz22
                      have hfz22_0 := blk_frozen HGz22 0
                      have hfz22_1 := blk_frozen HGz22 1
                      have hfz22_2 := blk_frozen HGz22 2
                      have hfz22_3 := blk_frozen HGz22 3
                      have hfz22_4 := blk_frozen HGz22 4
                      have hfz22_5 := blk_frozen HGz22 5
                      have hfz22_6 := blk_frozen HGz22 6
                      have hfz22_7 := blk_frozen HGz22 7
                      have hfz22_8 := blk_frozen HGz22 8
                      have hfz22_9 := blk_frozen HGz22 9
                      have hfz22_10 := blk_frozen HGz22 10
                      clear HGz22 hgz22
                      have hp_ : atP g a1 = some ⟨g, 9, none⟩ := by unfold atP; simp only [c5b0, c7b0, c9b0, c11b0, c13b0, c15b0, c17b0, c19b0, c21b0, Bool.false_eq_true, if_true, if_false]
                      go_enter Try.func23, Try.ntmps23
                      go_wp2_with (first | ((with_reducible refine gate_callee (f := 48) rfl ?_); refine goesL_ (some 9) rfl rfl Try.func48 (by kernel_rfl) rfl #[.pointer (some ⟨g, 0, none⟩), .int .i64 a1] rfl (by (try simp only [List.map_toArray, List.map_cons, List.map_nil]); first | done | rfl) ?_; (with_reducible refine (csr_File_at.calls g a1 _ _ hp_).mono ?_); rintro e w' ⟨rfl, ⟨nd, rfl⟩⟩; refine ⟨_, rfl, ?_⟩))
                      go_ret2
                      exact ⟨by first | rfl | (simp [errW_none, errW_some] <;> rfl) | (simp [*, errW_none, errW_some] <;> rfl), by repeat (first | (with_reducible first | exact HI0.out | apply IsS38.alloc | apply IsS38.drewN | apply IsS38.drew | apply IsS38.set_0 | apply IsS38.set_1 | apply IsS38.set_2 | apply IsS38.set_3 | apply IsS38.set_4 | apply IsS38.set_5 | apply IsS38.set_6 | apply IsS38.set_7 | apply IsS38.set_8 | apply IsS38.set_9 | apply IsS38.set_10) | exact HI0.out), by repeat (first | (with_reducible first | exact HB.out | apply below_alloc | apply pw_below_drewN | apply below_drew1 | refine below_set ?_ (IsS38.ge HI0.out)) | exact HB.out), by repeat (first | (with_reducible first | exact HK.out | apply KeepBut.set_ | apply keep_drewN | apply keep_drew | apply keep_alloc) | exact HK.out)⟩
                    · rw [if_neg c21] at H
                      have c21b0 : (a1 == 836) = false := beq_eq_false_iff_ne.mpr c21
                      have c21b1 : (a1 != 836) = true := bne_iff_ne.mpr c21
                      by_cases c23 : a1 = 3860
                      · rw [if_pos c23] at H
                        have c23b0 : (a1 == 3860) = true := beq_iff_eq.mpr c23
                        have c23b1 : (a1 != 3860) = false := bne_eq_false_iff_eq.mpr c23
                        clear c23
                        simp only [Option.some.injEq, Prod.mk.injEq] at H
                        obtain ⟨rfl, rfl, rfl, rfl, rfl, rfl, rfl, rfl, rfl, rfl, rfl, rfl, rfl⟩ := H
                        obtain ⟨HGz24, hgz24⟩ := HI0.out
                        have hcz24_0 := cellS38_0 HGz24
                        have hcz24_1 := cellS38_1 HGz24
                        have hcz24_2 := cellS38_2 HGz24
                        have hcz24_3 := cellS38_3 HGz24
                        have hcz24_4 := cellS38_4 HGz24
                        have hcz24_5 := cellS38_5 HGz24
                        have hcz24_6 := cellS38_6 HGz24
                        have hcz24_7 := cellS38_7 HGz24
                        have hcz24_8 := cellS38_8 HGz24
                        have hcz24_9 := cellS38_9 HGz24
                        have hcz24_10 := cellS38_10 HGz24
                        have hfz24_0 := blk_frozen HGz24 0
                        have hfz24_1 := blk_frozen HGz24 1
                        have hfz24_2 := blk_frozen HGz24 2
                        have hfz24_3 := blk_frozen HGz24 3
                        have hfz24_4 := blk_frozen HGz24 4
                        have hfz24_5 := blk_frozen HGz24 5
                        have hfz24_6 := blk_frozen HGz24 6
                        have hfz24_7 := blk_frozen HGz24 7
                        have hfz24_8 := blk_frozen HGz24 8
                        have hfz24_9 := blk_frozen HGz24 9
                        have hfz24_10 := blk_frozen HGz24 10
                        clear HGz24 hgz24
                        have hp_ : atP g a1 = some ⟨g, 10, none⟩ := by unfold atP; simp only [c5b0, c7b0, c9b0, c11b0, c13b0, c15b0, c17b0, c19b0, c21b0, c23b0, Bool.false_eq_true, if_true, if_false]
                        go_enter Try.func23, Try.ntmps23
                        go_wp2_with (first | ((with_reducible refine gate_callee (f := 48) rfl ?_); refine goesL_ (some 9) rfl rfl Try.func48 (by kernel_rfl) rfl #[.pointer (some ⟨g, 0, none⟩), .int .i64 a1] rfl (by (try simp only [List.map_toArray, List.map_cons, List.map_nil]); first | done | rfl) ?_; (with_reducible refine (csr_File_at.calls g a1 _ _ hp_).mono ?_); rintro e w' ⟨rfl, ⟨nd, rfl⟩⟩; refine ⟨_, rfl, ?_⟩))
                        go_ret2
                        exact ⟨by first | rfl | (simp [errW_none, errW_some] <;> rfl) | (simp [*, errW_none, errW_some] <;> rfl), by repeat (first | (with_reducible first | exact HI0.out | apply IsS38.alloc | apply IsS38.drewN | apply IsS38.drew | apply IsS38.set_0 | apply IsS38.set_1 | apply IsS38.set_2 | apply IsS38.set_3 | apply IsS38.set_4 | apply IsS38.set_5 | apply IsS38.set_6 | apply IsS38.set_7 | apply IsS38.set_8 | apply IsS38.set_9 | apply IsS38.set_10) | exact HI0.out), by repeat (first | (with_reducible first | exact HB.out | apply below_alloc | apply pw_below_drewN | apply below_drew1 | refine below_set ?_ (IsS38.ge HI0.out)) | exact HB.out), by repeat (first | (with_reducible first | exact HK.out | apply KeepBut.set_ | apply keep_drewN | apply keep_drew | apply keep_alloc) | exact HK.out)⟩
                      · rw [if_neg c23] at H
                        have c23b0 : (a1 == 3860) = false := beq_eq_false_iff_ne.mpr c23
                        have c23b1 : (a1 != 3860) = true := bne_iff_ne.mpr c23
                        simp only [Option.some.injEq, Prod.mk.injEq] at H
                        obtain ⟨rfl, rfl, rfl, rfl, rfl, rfl, rfl, rfl, rfl, rfl, rfl, rfl, rfl⟩ := H
                        obtain ⟨HGz25, hgz25⟩ := HI0.out
                        have hcz25_0 := cellS38_0 HGz25
                        have hcz25_1 := cellS38_1 HGz25
                        have hcz25_2 := cellS38_2 HGz25
                        have hcz25_3 := cellS38_3 HGz25
                        have hcz25_4 := cellS38_4 HGz25
                        have hcz25_5 := cellS38_5 HGz25
                        have hcz25_6 := cellS38_6 HGz25
                        have hcz25_7 := cellS38_7 HGz25
                        have hcz25_8 := cellS38_8 HGz25
                        have hcz25_9 := cellS38_9 HGz25
                        have hcz25_10 := cellS38_10 HGz25
                        have hfz25_0 := blk_frozen HGz25 0
                        have hfz25_1 := blk_frozen HGz25 1
                        have hfz25_2 := blk_frozen HGz25 2
                        have hfz25_3 := blk_frozen HGz25 3
                        have hfz25_4 := blk_frozen HGz25 4
                        have hfz25_5 := blk_frozen HGz25 5
                        have hfz25_6 := blk_frozen HGz25 6
                        have hfz25_7 := blk_frozen HGz25 7
                        have hfz25_8 := blk_frozen HGz25 8
                        have hfz25_9 := blk_frozen HGz25 9
                        have hfz25_10 := blk_frozen HGz25 10
                        clear HGz25 hgz25
                        have hp_ : atP g a1 = none := by unfold atP; simp only [c5b0, c7b0, c9b0, c11b0, c13b0, c15b0, c17b0, c19b0, c21b0, c23b0, Bool.false_eq_true, if_true, if_false]
                        go_enter Try.func23, Try.ntmps23
                        go_wp2_with (first | ((with_reducible refine gate_callee (f := 48) rfl ?_); refine goesL_ (some 9) rfl rfl Try.func48 (by kernel_rfl) rfl #[.pointer (some ⟨g, 0, none⟩), .int .i64 a1] rfl (by (try simp only [List.map_toArray, List.map_cons, List.map_nil]); first | done | rfl) ?_; (with_reducible refine (csr_File_at.calls g a1 _ _ hp_).mono ?_); rintro e w' ⟨rfl, ⟨nd, rfl⟩⟩; refine ⟨_, rfl, ?_⟩))
                        go_ret2
                        exact ⟨by first | rfl | (simp [errW_none, errW_some] <;> rfl) | (simp [*, errW_none, errW_some] <;> rfl), by repeat (first | (with_reducible first | exact HI0.out | apply IsS38.alloc | apply IsS38.drewN | apply IsS38.drew | apply IsS38.set_0 | apply IsS38.set_1 | apply IsS38.set_2 | apply IsS38.set_3 | apply IsS38.set_4 | apply IsS38.set_5 | apply IsS38.set_6 | apply IsS38.set_7 | apply IsS38.set_8 | apply IsS38.set_9 | apply IsS38.set_10) | exact HI0.out), by repeat (first | (with_reducible first | exact HB.out | apply below_alloc | apply pw_below_drewN | apply below_drew1 | refine below_set ?_ (IsS38.ge HI0.out)) | exact HB.out), by repeat (first | (with_reducible first | exact HK.out | apply KeepBut.set_ | apply keep_drewN | apply keep_drew | apply keep_alloc) | exact HK.out)⟩

/-! ### csr_File_Mode: function 27 -/
def csr_File_Mode.f (s0_0 : Bool) (s0_1 : Int) (s0_2 : Int) (s0_3 : Int) (s0_4 : Int) (s0_5 : Int) (s0_6 : Int) (s0_7 : Int) (s0_8 : Int) (s0_9 : Int) (s0_10 : Int) : Option (Int × Bool × Int × Int × Int × Int × Int × Int × Int × Int × Int × Int) := if s0_0 = true then (some (0, s0_0, s0_1, s0_2, s0_3, s0_4, s0_5, s0_6, s0_7, s0_8, s0_9, s0_10)) else (some (3, s0_0, s0_1, s0_2, s0_3, s0_4, s0_5, s0_6, s0_7, s0_8, s0_9, s0_10))
set_option maxHeartbeats 8000000 in
set_option maxRecDepth 100000 in
theorem csr_File_Mode.calls (g : Nat) (s0_0 : Bool) (s0_1 : Int) (s0_2 : Int) (s0_3 : Int) (s0_4 : Int) (s0_5 : Int) (s0_6 : Int) (s0_7 : Int) (s0_8 : Int) (s0_9 : Int) (s0_10 : Int) (r1 : Int) (r2 : Bool) (r3 : Int) (r4 : Int) (r5 : Int) (r6 : Int) (r7 : Int) (r8 : Int) (r9 : Int) (r10 : Int) (r11 : Int) (r12 : Int) (w0 w : World) (hI : IsS38 w0 w g s0_0 s0_1 s0_2 s0_3 s0_4 s0_5 s0_6 s0_7 s0_8 s0_9 s0_10) (hB : Below w0.heap.size w0 w) (h : csr_File_Mode.f s0_0 s0_1 s0_2 s0_3 s0_4 s0_5 s0_6 s0_7 s0_8 s0_9 s0_10 = some (r1, r2, r3, r4, r5, r6, r7, r8, r9, r10, r11, r12)) :
    Calls Try.prog 27 #[.pointer (some ⟨g, 0, none⟩)] w fun e w' => e = .returned (.int .i64 r1) ∧ IsS38 w0 w' g r2 r3 r4 r5 r6 r7 r8 r9 r10 r11 r12 ∧ Below w0.heap.size w0 w' ∧ KeepBut w w' g none := by
  have HI0 := Aside0.mk hI
  have HK := Aside0.mk (KeepBut.refl w g none)
  have HL := Aside0.mk hB.size
  clear hI
  have HW0 := Aside0.mk hB.size
  have HB := Aside0.mk hB
  clear hB
  have H : (if s0_0 = true then (some (0, s0_0, s0_1, s0_2, s0_3, s0_4, s0_5, s0_6, s0_7, s0_8, s0_9, s0_10)) else (some (3, s0_0, s0_1, s0_2, s0_3, s0_4, s0_5, s0_6, s0_7, s0_8, s0_9, s0_10))) = some (r1, r2, r3, r4, r5, r6, r7, r8, r9, r10, r11, r12) := h
  clear h
  by_cases c2 : s0_0 = true
  · subst c2
    have H1 : (some (0, true, s0_1, s0_2, s0_3, s0_4, s0_5, s0_6, s0_7, s0_8, s0_9, s0_10)) = some (r1, r2, r3, r4, r5, r6, r7, r8, r9, r10, r11, r12) := by rw [if_pos rfl] at H; exact H
    clear H
    have H := H1
    clear H1
    simp only [Option.some.injEq, Prod.mk.injEq] at H
    obtain ⟨rfl, rfl, rfl, rfl, rfl, rfl, rfl, rfl, rfl, rfl, rfl, rfl⟩ := H
    obtain ⟨HGz3, hgz3⟩ := HI0.out
    have hcz3_0 := cellS38_0 HGz3
    have hcz3_1 := cellS38_1 HGz3
    have hcz3_2 := cellS38_2 HGz3
    have hcz3_3 := cellS38_3 HGz3
    have hcz3_4 := cellS38_4 HGz3
    have hcz3_5 := cellS38_5 HGz3
    have hcz3_6 := cellS38_6 HGz3
    have hcz3_7 := cellS38_7 HGz3
    have hcz3_8 := cellS38_8 HGz3
    have hcz3_9 := cellS38_9 HGz3
    have hcz3_10 := cellS38_10 HGz3
    have hfz3_0 := blk_frozen HGz3 0
    have hfz3_1 := blk_frozen HGz3 1
    have hfz3_2 := blk_frozen HGz3 2
    have hfz3_3 := blk_frozen HGz3 3
    have hfz3_4 := blk_frozen HGz3 4
    have hfz3_5 := blk_frozen HGz3 5
    have hfz3_6 := blk_frozen HGz3 6
    have hfz3_7 := blk_frozen HGz3 7
    have hfz3_8 := blk_frozen HGz3 8
    have hfz3_9 := blk_frozen HGz3 9
    have hfz3_10 := blk_frozen HGz3 10
    clear HGz3 hgz3
    go_enter Try.func27, Try.ntmps27
    go_wp2
    go_ret
    exact ⟨by first | rfl | (simp [errW_none, errW_some] <;> rfl) | (simp [*, errW_none, errW_some] <;> rfl), by repeat (first | (with_reducible first | exact HI0.out | apply IsS38.alloc | apply IsS38.drewN | apply IsS38.drew | apply IsS38.set_0 | apply IsS38.set_1 | apply IsS38.set_2 | apply IsS38.set_3 | apply IsS38.set_4 | apply IsS38.set_5 | apply IsS38.set_6 | apply IsS38.set_7 | apply IsS38.set_8 | apply IsS38.set_9 | apply IsS38.set_10) | exact HI0.out), by repeat (first | (with_reducible first | exact HB.out | apply below_alloc | apply pw_below_drewN | apply below_drew1 | refine below_set ?_ (IsS38.ge HI0.out)) | exact HB.out), by repeat (first | (with_reducible first | exact HK.out | apply KeepBut.set_ | apply keep_drewN | apply keep_drew | apply keep_alloc) | exact HK.out)⟩
  · replace c2 := Bool.eq_false_iff.mpr c2
    subst c2
    have H1 : (some (3, false, s0_1, s0_2, s0_3, s0_4, s0_5, s0_6, s0_7, s0_8, s0_9, s0_10)) = some (r1, r2, r3, r4, r5, r6, r7, r8, r9, r10, r11, r12) := by rw [if_neg (show ¬ (false = true) by decide)] at H; exact H
    clear H
    have H := H1
    clear H1
    simp only [Option.some.injEq, Prod.mk.injEq] at H
    obtain ⟨rfl, rfl, rfl, rfl, rfl, rfl, rfl, rfl, rfl, rfl, rfl, rfl⟩ := H
    obtain ⟨HGz4, hgz4⟩ := HI0.out
    have hcz4_0 := cellS38_0 HGz4
    have hcz4_1 := cellS38_1 HGz4
    have hcz4_2 := cellS38_2 HGz4
    have hcz4_3 := cellS38_3 HGz4
    have hcz4_4 := cellS38_4 HGz4
    have hcz4_5 := cellS38_5 HGz4
    have hcz4_6 := cellS38_6 HGz4
    have hcz4_7 := cellS38_7 HGz4
    have hcz4_8 := cellS38_8 HGz4
    have hcz4_9 := cellS38_9 HGz4
    have hcz4_10 := cellS38_10 HGz4
    have hfz4_0 := blk_frozen HGz4 0
    have hfz4_1 := blk_frozen HGz4 1
    have hfz4_2 := blk_frozen HGz4 2
    have hfz4_3 := blk_frozen HGz4 3
    have hfz4_4 := blk_frozen HGz4 4
    have hfz4_5 := blk_frozen HGz4 5
    have hfz4_6 := blk_frozen HGz4 6
    have hfz4_7 := blk_frozen HGz4 7
    have hfz4_8 := blk_frozen HGz4 8
    have hfz4_9 := blk_frozen HGz4 9
    have hfz4_10 := blk_frozen HGz4 10
    clear HGz4 hgz4
    go_enter Try.func27, Try.ntmps27
    go_wp2
    go_ret
    exact ⟨by first | rfl | (simp [errW_none, errW_some] <;> rfl) | (simp [*, errW_none, errW_some] <;> rfl), by repeat (first | (with_reducible first | exact HI0.out | apply IsS38.alloc | apply IsS38.drewN | apply IsS38.drew | apply IsS38.set_0 | apply IsS38.set_1 | apply IsS38.set_2 | apply IsS38.set_3 | apply IsS38.set_4 | apply IsS38.set_5 | apply IsS38.set_6 | apply IsS38.set_7 | apply IsS38.set_8 | apply IsS38.set_9 | apply IsS38.set_10) | exact HI0.out), by repeat (first | (with_reducible first | exact HB.out | apply below_alloc | apply pw_below_drewN | apply below_drew1 | refine below_set ?_ (IsS38.ge HI0.out)) | exact HB.out), by repeat (first | (with_reducible first | exact HK.out | apply KeepBut.set_ | apply keep_drewN | apply keep_drew | apply keep_alloc) | exact HK.out)⟩

/-! ### corrallaw6_first: function 20 -/
def corrallaw6_first.f  : Option (Bool) := (csr_New.f 3).bind fun bt104 => ((csr_File_Set.f bt104.1 bt104.2.1 bt104.2.2.1 bt104.2.2.2.1 bt104.2.2.2.2.1 bt104.2.2.2.2.2.1 bt104.2.2.2.2.2.2.1 bt104.2.2.2.2.2.2.2.1 bt104.2.2.2.2.2.2.2.2.1 bt104.2.2.2.2.2.2.2.2.2.1 bt104.2.2.2.2.2.2.2.2.2.2 768 6152).bind fun bt116 => ((csr_File_Get.f bt116.2.1 bt116.2.2.1 bt116.2.2.2.1 bt116.2.2.2.2.1 bt116.2.2.2.2.2.1 bt116.2.2.2.2.2.2.1 bt116.2.2.2.2.2.2.2.1 bt116.2.2.2.2.2.2.2.2.1 bt116.2.2.2.2.2.2.2.2.2.1 bt116.2.2.2.2.2.2.2.2.2.2.1 bt116.2.2.2.2.2.2.2.2.2.2.2 768).bind fun bt128 => ((csr_File_Set.f bt128.2.2.1 bt128.2.2.2.1 bt128.2.2.2.2.1 bt128.2.2.2.2.2.1 bt128.2.2.2.2.2.2.1 bt128.2.2.2.2.2.2.2.1 bt128.2.2.2.2.2.2.2.2.1 bt128.2.2.2.2.2.2.2.2.2.1 bt128.2.2.2.2.2.2.2.2.2.2.1 bt128.2.2.2.2.2.2.2.2.2.2.2.1 bt128.2.2.2.2.2.2.2.2.2.2.2.2 773 7).bind fun bt141 => ((csr_File_Get.f bt141.2.1 bt141.2.2.1 bt141.2.2.2.1 bt141.2.2.2.2.1 bt141.2.2.2.2.2.1 bt141.2.2.2.2.2.2.1 bt141.2.2.2.2.2.2.2.1 bt141.2.2.2.2.2.2.2.2.1 bt141.2.2.2.2.2.2.2.2.2.1 bt141.2.2.2.2.2.2.2.2.2.2.1 bt141.2.2.2.2.2.2.2.2.2.2.2 773).bind fun bt153 => ((csr_File_Get.f bt153.2.2.1 bt153.2.2.2.1 bt153.2.2.2.2.1 bt153.2.2.2.2.2.1 bt153.2.2.2.2.2.2.1 bt153.2.2.2.2.2.2.2.1 bt153.2.2.2.2.2.2.2.2.1 bt153.2.2.2.2.2.2.2.2.2.1 bt153.2.2.2.2.2.2.2.2.2.2.1 bt153.2.2.2.2.2.2.2.2.2.2.2.1 bt153.2.2.2.2.2.2.2.2.2.2.2.2 3860).bind fun bt166 => (if bt116.1 = true then (if bt128.2.1 = true then (if bt128.1 = 6152 then (if bt141.1 = true then (if bt153.1 = 4 then (if bt166.1 = 3 then ((csr_File_Mode.f bt166.2.2.1 bt166.2.2.2.1 bt166.2.2.2.2.1 bt166.2.2.2.2.2.1 bt166.2.2.2.2.2.2.1 bt166.2.2.2.2.2.2.2.1 bt166.2.2.2.2.2.2.2.2.1 bt166.2.2.2.2.2.2.2.2.2.1 bt166.2.2.2.2.2.2.2.2.2.2.1 bt166.2.2.2.2.2.2.2.2.2.2.2.1 bt166.2.2.2.2.2.2.2.2.2.2.2.2).bind fun bt179 => (some (bt179.1 == 3))) else (some false)) else (some false)) else (some false)) else (some false)) else (some false)) else (some false)))))))
set_option maxHeartbeats 8000000 in
set_option maxRecDepth 100000 in
theorem corrallaw6_first.calls  (r : Bool) (w : World) (h : corrallaw6_first.f  = some r) :
    Calls Try.prog 20 #[] w fun e w' => e = .returned (.bool r) ∧ Below w.heap.size w w' := by
  have hu38 := Try.underlying38
  have HB := Aside0.mk (Below.refl w.heap.size w)
  have H : ((csr_New.f 3).bind fun bt104 => ((csr_File_Set.f bt104.1 bt104.2.1 bt104.2.2.1 bt104.2.2.2.1 bt104.2.2.2.2.1 bt104.2.2.2.2.2.1 bt104.2.2.2.2.2.2.1 bt104.2.2.2.2.2.2.2.1 bt104.2.2.2.2.2.2.2.2.1 bt104.2.2.2.2.2.2.2.2.2.1 bt104.2.2.2.2.2.2.2.2.2.2 768 6152).bind fun bt116 => ((csr_File_Get.f bt116.2.1 bt116.2.2.1 bt116.2.2.2.1 bt116.2.2.2.2.1 bt116.2.2.2.2.2.1 bt116.2.2.2.2.2.2.1 bt116.2.2.2.2.2.2.2.1 bt116.2.2.2.2.2.2.2.2.1 bt116.2.2.2.2.2.2.2.2.2.1 bt116.2.2.2.2.2.2.2.2.2.2.1 bt116.2.2.2.2.2.2.2.2.2.2.2 768).bind fun bt128 => ((csr_File_Set.f bt128.2.2.1 bt128.2.2.2.1 bt128.2.2.2.2.1 bt128.2.2.2.2.2.1 bt128.2.2.2.2.2.2.1 bt128.2.2.2.2.2.2.2.1 bt128.2.2.2.2.2.2.2.2.1 bt128.2.2.2.2.2.2.2.2.2.1 bt128.2.2.2.2.2.2.2.2.2.2.1 bt128.2.2.2.2.2.2.2.2.2.2.2.1 bt128.2.2.2.2.2.2.2.2.2.2.2.2 773 7).bind fun bt141 => ((csr_File_Get.f bt141.2.1 bt141.2.2.1 bt141.2.2.2.1 bt141.2.2.2.2.1 bt141.2.2.2.2.2.1 bt141.2.2.2.2.2.2.1 bt141.2.2.2.2.2.2.2.1 bt141.2.2.2.2.2.2.2.2.1 bt141.2.2.2.2.2.2.2.2.2.1 bt141.2.2.2.2.2.2.2.2.2.2.1 bt141.2.2.2.2.2.2.2.2.2.2.2 773).bind fun bt153 => ((csr_File_Get.f bt153.2.2.1 bt153.2.2.2.1 bt153.2.2.2.2.1 bt153.2.2.2.2.2.1 bt153.2.2.2.2.2.2.1 bt153.2.2.2.2.2.2.2.1 bt153.2.2.2.2.2.2.2.2.1 bt153.2.2.2.2.2.2.2.2.2.1 bt153.2.2.2.2.2.2.2.2.2.2.1 bt153.2.2.2.2.2.2.2.2.2.2.2.1 bt153.2.2.2.2.2.2.2.2.2.2.2.2 3860).bind fun bt166 => (if bt116.1 = true then (if bt128.2.1 = true then (if bt128.1 = 6152 then (if bt141.1 = true then (if bt153.1 = 4 then (if bt166.1 = 3 then ((csr_File_Mode.f bt166.2.2.1 bt166.2.2.2.1 bt166.2.2.2.2.1 bt166.2.2.2.2.2.1 bt166.2.2.2.2.2.2.1 bt166.2.2.2.2.2.2.2.1 bt166.2.2.2.2.2.2.2.2.1 bt166.2.2.2.2.2.2.2.2.2.1 bt166.2.2.2.2.2.2.2.2.2.2.1 bt166.2.2.2.2.2.2.2.2.2.2.2.1 bt166.2.2.2.2.2.2.2.2.2.2.2.2).bind fun bt179 => (some (bt179.1 == 3))) else (some false)) else (some false)) else (some false)) else (some false)) else (some false)) else (some false)))))))) = some r := h
  clear h
  replace H := Option.bind_eq_some_iff.mp H
  obtain ⟨⟨t104, t105, t106, t107, t108, t109, t110, t111, t112, t113, t114⟩, A10, H⟩ := H
  replace H : ((csr_File_Set.f t104 t105 t106 t107 t108 t109 t110 t111 t112 t113 t114 768 6152).bind fun bt116 => ((csr_File_Get.f bt116.2.1 bt116.2.2.1 bt116.2.2.2.1 bt116.2.2.2.2.1 bt116.2.2.2.2.2.1 bt116.2.2.2.2.2.2.1 bt116.2.2.2.2.2.2.2.1 bt116.2.2.2.2.2.2.2.2.1 bt116.2.2.2.2.2.2.2.2.2.1 bt116.2.2.2.2.2.2.2.2.2.2.1 bt116.2.2.2.2.2.2.2.2.2.2.2 768).bind fun bt128 => ((csr_File_Set.f bt128.2.2.1 bt128.2.2.2.1 bt128.2.2.2.2.1 bt128.2.2.2.2.2.1 bt128.2.2.2.2.2.2.1 bt128.2.2.2.2.2.2.2.1 bt128.2.2.2.2.2.2.2.2.1 bt128.2.2.2.2.2.2.2.2.2.1 bt128.2.2.2.2.2.2.2.2.2.2.1 bt128.2.2.2.2.2.2.2.2.2.2.2.1 bt128.2.2.2.2.2.2.2.2.2.2.2.2 773 7).bind fun bt141 => ((csr_File_Get.f bt141.2.1 bt141.2.2.1 bt141.2.2.2.1 bt141.2.2.2.2.1 bt141.2.2.2.2.2.1 bt141.2.2.2.2.2.2.1 bt141.2.2.2.2.2.2.2.1 bt141.2.2.2.2.2.2.2.2.1 bt141.2.2.2.2.2.2.2.2.2.1 bt141.2.2.2.2.2.2.2.2.2.2.1 bt141.2.2.2.2.2.2.2.2.2.2.2 773).bind fun bt153 => ((csr_File_Get.f bt153.2.2.1 bt153.2.2.2.1 bt153.2.2.2.2.1 bt153.2.2.2.2.2.1 bt153.2.2.2.2.2.2.1 bt153.2.2.2.2.2.2.2.1 bt153.2.2.2.2.2.2.2.2.1 bt153.2.2.2.2.2.2.2.2.2.1 bt153.2.2.2.2.2.2.2.2.2.2.1 bt153.2.2.2.2.2.2.2.2.2.2.2.1 bt153.2.2.2.2.2.2.2.2.2.2.2.2 3860).bind fun bt166 => (if bt116.1 = true then (if bt128.2.1 = true then (if bt128.1 = 6152 then (if bt141.1 = true then (if bt153.1 = 4 then (if bt166.1 = 3 then ((csr_File_Mode.f bt166.2.2.1 bt166.2.2.2.1 bt166.2.2.2.2.1 bt166.2.2.2.2.2.1 bt166.2.2.2.2.2.2.1 bt166.2.2.2.2.2.2.2.1 bt166.2.2.2.2.2.2.2.2.1 bt166.2.2.2.2.2.2.2.2.2.1 bt166.2.2.2.2.2.2.2.2.2.2.1 bt166.2.2.2.2.2.2.2.2.2.2.2.1 bt166.2.2.2.2.2.2.2.2.2.2.2.2).bind fun bt179 => (some (bt179.1 == 3))) else (some false)) else (some false)) else (some false)) else (some false)) else (some false)) else (some false))))))) = some r := H
  have A1 := Aside0.mk A10
  clear A10
  replace H := Option.bind_eq_some_iff.mp H
  obtain ⟨⟨t116, t117, t118, t119, t120, t121, t122, t123, t124, t125, t126, t127⟩, A20, H⟩ := H
  replace H : ((csr_File_Get.f t117 t118 t119 t120 t121 t122 t123 t124 t125 t126 t127 768).bind fun bt128 => ((csr_File_Set.f bt128.2.2.1 bt128.2.2.2.1 bt128.2.2.2.2.1 bt128.2.2.2.2.2.1 bt128.2.2.2.2.2.2.1 bt128.2.2.2.2.2.2.2.1 bt128.2.2.2.2.2.2.2.2.1 bt128.2.2.2.2.2.2.2.2.2.1 bt128.2.2.2.2.2.2.2.2.2.2.1 bt128.2.2.2.2.2.2.2.2.2.2.2.1 bt128.2.2.2.2.2.2.2.2.2.2.2.2 773 7).bind fun bt141 => ((csr_File_Get.f bt141.2.1 bt141.2.2.1 bt141.2.2.2.1 bt141.2.2.2.2.1 bt141.2.2.2.2.2.1 bt141.2.2.2.2.2.2.1 bt141.2.2.2.2.2.2.2.1 bt141.2.2.2.2.2.2.2.2.1 bt141.2.2.2.2.2.2.2.2.2.1 bt141.2.2.2.2.2.2.2.2.2.2.1 bt141.2.2.2.2.2.2.2.2.2.2.2 773).bind fun bt153 => ((csr_File_Get.f bt153.2.2.1 bt153.2.2.2.1 bt153.2.2.2.2.1 bt153.2.2.2.2.2.1 bt153.2.2.2.2.2.2.1 bt153.2.2.2.2.2.2.2.1 bt153.2.2.2.2.2.2.2.2.1 bt153.2.2.2.2.2.2.2.2.2.1 bt153.2.2.2.2.2.2.2.2.2.2.1 bt153.2.2.2.2.2.2.2.2.2.2.2.1 bt153.2.2.2.2.2.2.2.2.2.2.2.2 3860).bind fun bt166 => (if t116 = true then (if bt128.2.1 = true then (if bt128.1 = 6152 then (if bt141.1 = true then (if bt153.1 = 4 then (if bt166.1 = 3 then ((csr_File_Mode.f bt166.2.2.1 bt166.2.2.2.1 bt166.2.2.2.2.1 bt166.2.2.2.2.2.1 bt166.2.2.2.2.2.2.1 bt166.2.2.2.2.2.2.2.1 bt166.2.2.2.2.2.2.2.2.1 bt166.2.2.2.2.2.2.2.2.2.1 bt166.2.2.2.2.2.2.2.2.2.2.1 bt166.2.2.2.2.2.2.2.2.2.2.2.1 bt166.2.2.2.2.2.2.2.2.2.2.2.2).bind fun bt179 => (some (bt179.1 == 3))) else (some false)) else (some false)) else (some false)) else (some false)) else (some false)) else (some false)))))) = some r := H
  have A2 := Aside0.mk A20
  clear A20
  replace H := Option.bind_eq_some_iff.mp H
  obtain ⟨⟨t128, t129, t130, t131, t132, t133, t134, t135, t136, t137, t138, t139, t140⟩, A30, H⟩ := H
  replace H : ((csr_File_Set.f t130 t131 t132 t133 t134 t135 t136 t137 t138 t139 t140 773 7).bind fun bt141 => ((csr_File_Get.f bt141.2.1 bt141.2.2.1 bt141.2.2.2.1 bt141.2.2.2.2.1 bt141.2.2.2.2.2.1 bt141.2.2.2.2.2.2.1 bt141.2.2.2.2.2.2.2.1 bt141.2.2.2.2.2.2.2.2.1 bt141.2.2.2.2.2.2.2.2.2.1 bt141.2.2.2.2.2.2.2.2.2.2.1 bt141.2.2.2.2.2.2.2.2.2.2.2 773).bind fun bt153 => ((csr_File_Get.f bt153.2.2.1 bt153.2.2.2.1 bt153.2.2.2.2.1 bt153.2.2.2.2.2.1 bt153.2.2.2.2.2.2.1 bt153.2.2.2.2.2.2.2.1 bt153.2.2.2.2.2.2.2.2.1 bt153.2.2.2.2.2.2.2.2.2.1 bt153.2.2.2.2.2.2.2.2.2.2.1 bt153.2.2.2.2.2.2.2.2.2.2.2.1 bt153.2.2.2.2.2.2.2.2.2.2.2.2 3860).bind fun bt166 => (if t116 = true then (if t129 = true then (if t128 = 6152 then (if bt141.1 = true then (if bt153.1 = 4 then (if bt166.1 = 3 then ((csr_File_Mode.f bt166.2.2.1 bt166.2.2.2.1 bt166.2.2.2.2.1 bt166.2.2.2.2.2.1 bt166.2.2.2.2.2.2.1 bt166.2.2.2.2.2.2.2.1 bt166.2.2.2.2.2.2.2.2.1 bt166.2.2.2.2.2.2.2.2.2.1 bt166.2.2.2.2.2.2.2.2.2.2.1 bt166.2.2.2.2.2.2.2.2.2.2.2.1 bt166.2.2.2.2.2.2.2.2.2.2.2.2).bind fun bt179 => (some (bt179.1 == 3))) else (some false)) else (some false)) else (some false)) else (some false)) else (some false)) else (some false))))) = some r := H
  have A3 := Aside0.mk A30
  clear A30
  replace H := Option.bind_eq_some_iff.mp H
  obtain ⟨⟨t141, t142, t143, t144, t145, t146, t147, t148, t149, t150, t151, t152⟩, A40, H⟩ := H
  replace H : ((csr_File_Get.f t142 t143 t144 t145 t146 t147 t148 t149 t150 t151 t152 773).bind fun bt153 => ((csr_File_Get.f bt153.2.2.1 bt153.2.2.2.1 bt153.2.2.2.2.1 bt153.2.2.2.2.2.1 bt153.2.2.2.2.2.2.1 bt153.2.2.2.2.2.2.2.1 bt153.2.2.2.2.2.2.2.2.1 bt153.2.2.2.2.2.2.2.2.2.1 bt153.2.2.2.2.2.2.2.2.2.2.1 bt153.2.2.2.2.2.2.2.2.2.2.2.1 bt153.2.2.2.2.2.2.2.2.2.2.2.2 3860).bind fun bt166 => (if t116 = true then (if t129 = true then (if t128 = 6152 then (if t141 = true then (if bt153.1 = 4 then (if bt166.1 = 3 then ((csr_File_Mode.f bt166.2.2.1 bt166.2.2.2.1 bt166.2.2.2.2.1 bt166.2.2.2.2.2.1 bt166.2.2.2.2.2.2.1 bt166.2.2.2.2.2.2.2.1 bt166.2.2.2.2.2.2.2.2.1 bt166.2.2.2.2.2.2.2.2.2.1 bt166.2.2.2.2.2.2.2.2.2.2.1 bt166.2.2.2.2.2.2.2.2.2.2.2.1 bt166.2.2.2.2.2.2.2.2.2.2.2.2).bind fun bt179 => (some (bt179.1 == 3))) else (some false)) else (some false)) else (some false)) else (some false)) else (some false)) else (some false)))) = some r := H
  have A4 := Aside0.mk A40
  clear A40
  replace H := Option.bind_eq_some_iff.mp H
  obtain ⟨⟨t153, t154, t155, t156, t157, t158, t159, t160, t161, t162, t163, t164, t165⟩, A50, H⟩ := H
  replace H : ((csr_File_Get.f t155 t156 t157 t158 t159 t160 t161 t162 t163 t164 t165 3860).bind fun bt166 => (if t116 = true then (if t129 = true then (if t128 = 6152 then (if t141 = true then (if t153 = 4 then (if bt166.1 = 3 then ((csr_File_Mode.f bt166.2.2.1 bt166.2.2.2.1 bt166.2.2.2.2.1 bt166.2.2.2.2.2.1 bt166.2.2.2.2.2.2.1 bt166.2.2.2.2.2.2.2.1 bt166.2.2.2.2.2.2.2.2.1 bt166.2.2.2.2.2.2.2.2.2.1 bt166.2.2.2.2.2.2.2.2.2.2.1 bt166.2.2.2.2.2.2.2.2.2.2.2.1 bt166.2.2.2.2.2.2.2.2.2.2.2.2).bind fun bt179 => (some (bt179.1 == 3))) else (some false)) else (some false)) else (some false)) else (some false)) else (some false)) else (some false))) = some r := H
  have A5 := Aside0.mk A50
  clear A50
  replace H := Option.bind_eq_some_iff.mp H
  obtain ⟨⟨t166, t167, t168, t169, t170, t171, t172, t173, t174, t175, t176, t177, t178⟩, A60, H⟩ := H
  replace H : (if t116 = true then (if t129 = true then (if t128 = 6152 then (if t141 = true then (if t153 = 4 then (if t166 = 3 then ((csr_File_Mode.f t168 t169 t170 t171 t172 t173 t174 t175 t176 t177 t178).bind fun bt179 => (some (bt179.1 == 3))) else (some false)) else (some false)) else (some false)) else (some false)) else (some false)) else (some false)) = some r := H
  have A6 := Aside0.mk A60
  clear A60
  by_cases c7 : t116 = true
  · subst c7
    have H1 : (if t129 = true then (if t128 = 6152 then (if t141 = true then (if t153 = 4 then (if t166 = 3 then ((csr_File_Mode.f t168 t169 t170 t171 t172 t173 t174 t175 t176 t177 t178).bind fun bt179 => (some (bt179.1 == 3))) else (some false)) else (some false)) else (some false)) else (some false)) else (some false)) = some r := by rw [if_pos rfl] at H; exact H
    clear H
    have H := H1
    clear H1
    by_cases c8 : t129 = true
    · subst c8
      have H1 : (if t128 = 6152 then (if t141 = true then (if t153 = 4 then (if t166 = 3 then ((csr_File_Mode.f t168 t169 t170 t171 t172 t173 t174 t175 t176 t177 t178).bind fun bt179 => (some (bt179.1 == 3))) else (some false)) else (some false)) else (some false)) else (some false)) = some r := by rw [if_pos rfl] at H; exact H
      clear H
      have H := H1
      clear H1
      by_cases c9 : t128 = 6152
      · rw [if_pos c9] at H
        have c9b0 : (t128 == 6152) = true := beq_iff_eq.mpr c9
        have c9b1 : (t128 != 6152) = false := bne_eq_false_iff_eq.mpr c9
        clear c9
        by_cases c10 : t141 = true
        · subst c10
          have H1 : (if t153 = 4 then (if t166 = 3 then ((csr_File_Mode.f t168 t169 t170 t171 t172 t173 t174 t175 t176 t177 t178).bind fun bt179 => (some (bt179.1 == 3))) else (some false)) else (some false)) = some r := by rw [if_pos rfl] at H; exact H
          clear H
          have H := H1
          clear H1
          by_cases c11 : t153 = 4
          · rw [if_pos c11] at H
            have c11b0 : (t153 == 4) = true := beq_iff_eq.mpr c11
            have c11b1 : (t153 != 4) = false := bne_eq_false_iff_eq.mpr c11
            clear c11
            by_cases c12 : t166 = 3
            · rw [if_pos c12] at H
              have c12b0 : (t166 == 3) = true := beq_iff_eq.mpr c12
              have c12b1 : (t166 != 3) = false := bne_eq_false_iff_eq.mpr c12
              clear c12
              replace H := Option.bind_eq_some_iff.mp H
              obtain ⟨⟨t179, t180, t181, t182, t183, t184, t185, t186, t187, t188, t189, t190⟩, A130, H⟩ := H
              replace H : (some (t179 == 3)) = some r := H
              have A13 := Aside0.mk A130
              clear A130
              obtain rfl := Option.some.inj H
              go_enter Try.func20, Try.ntmps20
              go_wp2_with (first | ((with_reducible refine gate_callee (f := 21) rfl ?_); refine goesL_ (some 10) rfl rfl Try.func21 (by kernel_rfl) rfl #[.int .i64 3] rfl (by (try simp only [List.map_toArray, List.map_cons, List.map_nil]); first | done | rfl | (simp only [List.length_drop, List.length_take]; rfl)) ?_; (with_reducible refine (csr_New.calls 3 t104 t105 t106 t107 t108 t109 t110 t111 t112 t113 t114 _ A1.out).mono ?_); rintro e w14 ⟨rfl, hb⟩; refine ⟨_, rfl, ?_⟩; have n0_ := Aside0.mk (below_step (by repeat (first | (with_reducible first | exact HB.out | apply below_alloc | apply pw_below_drewN | apply below_drew1) | exact HB.out)) hb); clear HB; have HB := n0_; clear n0_; (try clear hb); (try clear hb2); (try clear hk); (try clear hi)) | ((with_reducible refine gate_dst (N := 1) rfl ?_); refine box_event ?hg (N := 1) ?hd (cs := #[.bool false, .int .u32 0, .int .u32 0, .int .u32 0, .int .u32 0, .int .u32 0, .int .u32 0, .int .u32 0, .int .u32 0, .int .u32 0, .int .u32 0]) (t := 38) ?hr ?_; (case hd => rfl); (case hg => rfl); (case hr => first | (go_simp; done) | (go_simp; rfl)); intro gb115 hg w15 hbox hb; have n0_ := Aside0.mk (below_step (by repeat (first | (with_reducible first | exact HB.out | apply below_alloc | apply pw_below_drewN | apply below_drew1) | exact HB.out)) hb); have n1_ := Aside0.mk (hbox); have n2_ := Aside0.mk ((by rw [hg]; exact (below_size (by repeat (first | (with_reducible first | exact HB.out | apply below_alloc | apply pw_below_drewN | apply below_drew1) | exact HB.out))) : w.heap.size ≤ gb115)); have n3_ := Aside0.mk ((by rw [hg]; exact (below_size (by repeat (first | (with_reducible first | exact HB.out | apply below_alloc | apply pw_below_drewN | apply below_drew1) | exact HB.out))) : w.heap.size ≤ gb115)); clear HB; have HB := n0_; have BK115 := n1_; have GW115 := n2_; have GE115 := n3_; clear n0_ n1_ n2_ n3_; clear hb hbox hg; have hcz16_0 : w15.cell? ⟨gb115, 0, none⟩ = some (.bool false) := (blk_cell BK115.out 0).trans rfl; have hcz16_1 : w15.cell? ⟨gb115, 1, none⟩ = some (.int .u32 0) := (blk_cell BK115.out 1).trans rfl; have hcz16_2 : w15.cell? ⟨gb115, 2, none⟩ = some (.int .u32 0) := (blk_cell BK115.out 2).trans rfl; have hcz16_3 : w15.cell? ⟨gb115, 3, none⟩ = some (.int .u32 0) := (blk_cell BK115.out 3).trans rfl; have hcz16_4 : w15.cell? ⟨gb115, 4, none⟩ = some (.int .u32 0) := (blk_cell BK115.out 4).trans rfl; have hcz16_5 : w15.cell? ⟨gb115, 5, none⟩ = some (.int .u32 0) := (blk_cell BK115.out 5).trans rfl; have hcz16_6 : w15.cell? ⟨gb115, 6, none⟩ = some (.int .u32 0) := (blk_cell BK115.out 6).trans rfl; have hcz16_7 : w15.cell? ⟨gb115, 7, none⟩ = some (.int .u32 0) := (blk_cell BK115.out 7).trans rfl; have hcz16_8 : w15.cell? ⟨gb115, 8, none⟩ = some (.int .u32 0) := (blk_cell BK115.out 8).trans rfl; have hcz16_9 : w15.cell? ⟨gb115, 9, none⟩ = some (.int .u32 0) := (blk_cell BK115.out 9).trans rfl; have hcz16_10 : w15.cell? ⟨gb115, 10, none⟩ = some (.int .u32 0) := (blk_cell BK115.out 10).trans rfl; have hfz16_0 := blk_frozen BK115.out 0; have hfz16_1 := blk_frozen BK115.out 1; have hfz16_2 := blk_frozen BK115.out 2; have hfz16_3 := blk_frozen BK115.out 3; have hfz16_4 := blk_frozen BK115.out 4; have hfz16_5 := blk_frozen BK115.out 5; have hfz16_6 := blk_frozen BK115.out 6; have hfz16_7 := blk_frozen BK115.out 7; have hfz16_8 := blk_frozen BK115.out 8; have hfz16_9 := blk_frozen BK115.out 9; have hfz16_10 := blk_frozen BK115.out 10) | ((with_reducible refine gate_callee (f := 22) rfl ?_); refine goesL_ (some 11) rfl rfl Try.func22 (by kernel_rfl) rfl #[.pointer (some ⟨gb115, 0, none⟩), .int .i64 768, .int .u32 6152] rfl (by (try simp only [List.map_toArray, List.map_cons, List.map_nil]); first | done | rfl | (simp only [List.length_drop, List.length_take]; rfl)) ?_; (with_reducible refine (csr_File_Set.calls gb115 t104 t105 t106 t107 t108 t109 t110 t111 t112 t113 t114 768 6152 true t117 t118 t119 t120 t121 t122 t123 t124 t125 t126 t127 w _ ?side1 ?side2 A2.out).mono ?_); (case side1 => exact And.intro (by (with_reducible repeat (first | refine blk_drewN ?_ _ | refine blk_drew ?_ | refine blk_alloc ?_ _)); refine blk_put (cs := #[.bool t104, .int .u32 t105, .int .u32 t106, .int .u32 t107, .int .u32 t108, .int .u32 t109, .int .u32 t110, .int .u32 t111, .int .u32 t112, .int .u32 t113, .int .u32 0]) ?_ 10 _ rfl; (with_reducible repeat (first | refine blk_drewN ?_ _ | refine blk_drew ?_ | refine blk_alloc ?_ _)); refine blk_put (cs := #[.bool t104, .int .u32 t105, .int .u32 t106, .int .u32 t107, .int .u32 t108, .int .u32 t109, .int .u32 t110, .int .u32 t111, .int .u32 t112, .int .u32 0, .int .u32 0]) ?_ 9 _ rfl; (with_reducible repeat (first | refine blk_drewN ?_ _ | refine blk_drew ?_ | refine blk_alloc ?_ _)); refine blk_put (cs := #[.bool t104, .int .u32 t105, .int .u32 t106, .int .u32 t107, .int .u32 t108, .int .u32 t109, .int .u32 t110, .int .u32 t111, .int .u32 0, .int .u32 0, .int .u32 0]) ?_ 8 _ rfl; (with_reducible repeat (first | refine blk_drewN ?_ _ | refine blk_drew ?_ | refine blk_alloc ?_ _)); refine blk_put (cs := #[.bool t104, .int .u32 t105, .int .u32 t106, .int .u32 t107, .int .u32 t108, .int .u32 t109, .int .u32 t110, .int .u32 0, .int .u32 0, .int .u32 0, .int .u32 0]) ?_ 7 _ rfl; (with_reducible repeat (first | refine blk_drewN ?_ _ | refine blk_drew ?_ | refine blk_alloc ?_ _)); refine blk_put (cs := #[.bool t104, .int .u32 t105, .int .u32 t106, .int .u32 t107, .int .u32 t108, .int .u32 t109, .int .u32 0, .int .u32 0, .int .u32 0, .int .u32 0, .int .u32 0]) ?_ 6 _ rfl; (with_reducible repeat (first | refine blk_drewN ?_ _ | refine blk_drew ?_ | refine blk_alloc ?_ _)); refine blk_put (cs := #[.bool t104, .int .u32 t105, .int .u32 t106, .int .u32 t107, .int .u32 t108, .int .u32 0, .int .u32 0, .int .u32 0, .int .u32 0, .int .u32 0, .int .u32 0]) ?_ 5 _ rfl; (with_reducible repeat (first | refine blk_drewN ?_ _ | refine blk_drew ?_ | refine blk_alloc ?_ _)); refine blk_put (cs := #[.bool t104, .int .u32 t105, .int .u32 t106, .int .u32 t107, .int .u32 0, .int .u32 0, .int .u32 0, .int .u32 0, .int .u32 0, .int .u32 0, .int .u32 0]) ?_ 4 _ rfl; (with_reducible repeat (first | refine blk_drewN ?_ _ | refine blk_drew ?_ | refine blk_alloc ?_ _)); refine blk_put (cs := #[.bool t104, .int .u32 t105, .int .u32 t106, .int .u32 0, .int .u32 0, .int .u32 0, .int .u32 0, .int .u32 0, .int .u32 0, .int .u32 0, .int .u32 0]) ?_ 3 _ rfl; (with_reducible repeat (first | refine blk_drewN ?_ _ | refine blk_drew ?_ | refine blk_alloc ?_ _)); refine blk_put (cs := #[.bool t104, .int .u32 t105, .int .u32 0, .int .u32 0, .int .u32 0, .int .u32 0, .int .u32 0, .int .u32 0, .int .u32 0, .int .u32 0, .int .u32 0]) ?_ 2 _ rfl; (with_reducible repeat (first | refine blk_drewN ?_ _ | refine blk_drew ?_ | refine blk_alloc ?_ _)); refine blk_put (cs := #[.bool t104, .int .u32 0, .int .u32 0, .int .u32 0, .int .u32 0, .int .u32 0, .int .u32 0, .int .u32 0, .int .u32 0, .int .u32 0, .int .u32 0]) ?_ 1 _ rfl; (with_reducible repeat (first | refine blk_drewN ?_ _ | refine blk_drew ?_ | refine blk_alloc ?_ _)); refine blk_put (cs := #[.bool false, .int .u32 0, .int .u32 0, .int .u32 0, .int .u32 0, .int .u32 0, .int .u32 0, .int .u32 0, .int .u32 0, .int .u32 0, .int .u32 0]) ?_ 0 _ rfl; (with_reducible repeat (first | refine blk_drewN ?_ _ | refine blk_drew ?_ | refine blk_alloc ?_ _)); exact BK115.out) GW115.out); (case side2 => repeat (first | (with_reducible first | exact HB.out | apply below_alloc | apply pw_below_drewN | apply below_drew1 | refine below_set ?_ GE115.out) | exact HB.out)); rintro e w17 ⟨rfl, hi, hb, hk⟩; refine ⟨_, rfl, ?_⟩; have n0_ := Aside0.mk (hb); have n1_ := Aside0.mk ((And.left hi)); clear HB; clear BK115; have HB := n0_; have BK115 := n1_; clear n0_ n1_; (try clear hb); (try clear hb2); (try clear hk); (try clear hi)) | ((with_reducible refine gate_callee (f := 23) rfl ?_); refine goesL_ (some 13) rfl rfl Try.func23 (by kernel_rfl) rfl #[.pointer (some ⟨gb115, 0, none⟩), .int .i64 768] rfl (by (try simp only [List.map_toArray, List.map_cons, List.map_nil]); first | done | rfl | (simp only [List.length_drop, List.length_take]; rfl)) ?_; (with_reducible refine (csr_File_Get.calls gb115 t117 t118 t119 t120 t121 t122 t123 t124 t125 t126 t127 768 t128 true t130 t131 t132 t133 t134 t135 t136 t137 t138 t139 t140 w _ ?side1 ?side2 A3.out).mono ?_); (case side1 => exact And.intro (by (with_reducible repeat (first | refine blk_drewN ?_ _ | refine blk_drew ?_ | refine blk_alloc ?_ _)); exact BK115.out) GW115.out); (case side2 => repeat (first | (with_reducible first | exact HB.out | apply below_alloc | apply pw_below_drewN | apply below_drew1 | refine below_set ?_ GE115.out) | exact HB.out)); rintro e w18 ⟨rfl, hi, hb, hk⟩; refine ⟨_, rfl, ?_⟩; have n0_ := Aside0.mk (hb); have n1_ := Aside0.mk ((And.left hi)); clear HB; clear BK115; have HB := n0_; have BK115 := n1_; clear n0_ n1_; (try clear hb); (try clear hb2); (try clear hk); (try clear hi)) | ((with_reducible refine gate_callee (f := 22) rfl ?_); refine goesL_ (some 16) rfl rfl Try.func22 (by kernel_rfl) rfl #[.pointer (some ⟨gb115, 0, none⟩), .int .i64 773, .int .u32 7] rfl (by (try simp only [List.map_toArray, List.map_cons, List.map_nil]); first | done | rfl | (simp only [List.length_drop, List.length_take]; rfl)) ?_; (with_reducible refine (csr_File_Set.calls gb115 t130 t131 t132 t133 t134 t135 t136 t137 t138 t139 t140 773 7 true t142 t143 t144 t145 t146 t147 t148 t149 t150 t151 t152 w _ ?side1 ?side2 A4.out).mono ?_); (case side1 => exact And.intro (by (with_reducible repeat (first | refine blk_drewN ?_ _ | refine blk_drew ?_ | refine blk_alloc ?_ _)); exact BK115.out) GW115.out); (case side2 => repeat (first | (with_reducible first | exact HB.out | apply below_alloc | apply pw_below_drewN | apply below_drew1 | refine below_set ?_ GE115.out) | exact HB.out)); rintro e w19 ⟨rfl, hi, hb, hk⟩; refine ⟨_, rfl, ?_⟩; have n0_ := Aside0.mk (hb); have n1_ := Aside0.mk ((And.left hi)); clear HB; clear BK115; have HB := n0_; have BK115 := n1_; clear n0_ n1_; (try clear hb); (try clear hb2); (try clear hk); (try clear hi)) | ((with_reducible refine gate_callee (f := 23) rfl ?_); refine goesL_ (some 18) rfl rfl Try.func23 (by kernel_rfl) rfl #[.pointer (some ⟨gb115, 0, none⟩), .int .i64 773] rfl (by (try simp only [List.map_toArray, List.map_cons, List.map_nil]); first | done | rfl | (simp only [List.length_drop, List.length_take]; rfl)) ?_; (with_reducible refine (csr_File_Get.calls gb115 t142 t143 t144 t145 t146 t147 t148 t149 t150 t151 t152 773 t153 t154 t155 t156 t157 t158 t159 t160 t161 t162 t163 t164 t165 w _ ?side1 ?side2 A5.out).mono ?_); (case side1 => exact And.intro (by (with_reducible repeat (first | refine blk_drewN ?_ _ | refine blk_drew ?_ | refine blk_alloc ?_ _)); exact BK115.out) GW115.out); (case side2 => repeat (first | (with_reducible first | exact HB.out | apply below_alloc | apply pw_below_drewN | apply below_drew1 | refine below_set ?_ GE115.out) | exact HB.out)); rintro e w20 ⟨rfl, hi, hb, hk⟩; refine ⟨_, rfl, ?_⟩; have n0_ := Aside0.mk (hb); have n1_ := Aside0.mk ((And.left hi)); clear HB; clear BK115; have HB := n0_; have BK115 := n1_; clear n0_ n1_; (try clear hb); (try clear hb2); (try clear hk); (try clear hi)) | ((with_reducible refine gate_callee (f := 23) rfl ?_); refine goesL_ (some 22) rfl rfl Try.func23 (by kernel_rfl) rfl #[.pointer (some ⟨gb115, 0, none⟩), .int .i64 3860] rfl (by (try simp only [List.map_toArray, List.map_cons, List.map_nil]); first | done | rfl | (simp only [List.length_drop, List.length_take]; rfl)) ?_; (with_reducible refine (csr_File_Get.calls gb115 t155 t156 t157 t158 t159 t160 t161 t162 t163 t164 t165 3860 t166 t167 t168 t169 t170 t171 t172 t173 t174 t175 t176 t177 t178 w _ ?side1 ?side2 A6.out).mono ?_); (case side1 => exact And.intro (by (with_reducible repeat (first | refine blk_drewN ?_ _ | refine blk_drew ?_ | refine blk_alloc ?_ _)); exact BK115.out) GW115.out); (case side2 => repeat (first | (with_reducible first | exact HB.out | apply below_alloc | apply pw_below_drewN | apply below_drew1 | refine below_set ?_ GE115.out) | exact HB.out)); rintro e w21 ⟨rfl, hi, hb, hk⟩; refine ⟨_, rfl, ?_⟩; have n0_ := Aside0.mk (hb); have n1_ := Aside0.mk ((And.left hi)); clear HB; clear BK115; have HB := n0_; have BK115 := n1_; clear n0_ n1_; (try clear hb); (try clear hb2); (try clear hk); (try clear hi)) | (go_at_call 27; (with_reducible refine (csr_File_Mode.calls gb115 t168 t169 t170 t171 t172 t173 t174 t175 t176 t177 t178 t179 t180 t181 t182 t183 t184 t185 t186 t187 t188 t189 t190 w _ ?side1 ?side2 A13.out).mono ?_); (case side1 => exact And.intro (by (with_reducible repeat (first | refine blk_drewN ?_ _ | refine blk_drew ?_ | refine blk_alloc ?_ _)); exact BK115.out) GW115.out); (case side2 => repeat (first | (with_reducible first | exact HB.out | apply below_alloc | apply pw_below_drewN | apply below_drew1 | refine below_set ?_ GE115.out) | exact HB.out)); rintro e w22 ⟨rfl, hi, hb, hk⟩; have n0_ := Aside0.mk (hb); have n1_ := Aside0.mk ((And.left hi)); clear HB; clear BK115; have HB := n0_; have BK115 := n1_; clear n0_ n1_; (try clear hb); (try clear hb2); (try clear hk); (try clear hi)))
              go_ret
              exact ⟨by first | rfl | (simp [errW_none, errW_some] <;> rfl) | (simp [*, errW_none, errW_some] <;> rfl), by repeat (first | (with_reducible first | exact HB.out | apply below_alloc | apply pw_below_drewN | apply below_drew1 | refine below_set ?_ GE115.out) | exact HB.out)⟩
            · rw [if_neg c12] at H
              have c12b0 : (t166 == 3) = false := beq_eq_false_iff_ne.mpr c12
              have c12b1 : (t166 != 3) = true := bne_iff_ne.mpr c12
              obtain rfl := Option.some.inj H
              go_enter Try.func20, Try.ntmps20
              go_wp2_with (first | ((with_reducible refine gate_callee (f := 21) rfl ?_); refine goesL_ (some 10) rfl rfl Try.func21 (by kernel_rfl) rfl #[.int .i64 3] rfl (by (try simp only [List.map_toArray, List.map_cons, List.map_nil]); first | done | rfl | (simp only [List.length_drop, List.length_take]; rfl)) ?_; (with_reducible refine (csr_New.calls 3 t104 t105 t106 t107 t108 t109 t110 t111 t112 t113 t114 _ A1.out).mono ?_); rintro e w23 ⟨rfl, hb⟩; refine ⟨_, rfl, ?_⟩; have n0_ := Aside0.mk (below_step (by repeat (first | (with_reducible first | exact HB.out | apply below_alloc | apply pw_below_drewN | apply below_drew1) | exact HB.out)) hb); clear HB; have HB := n0_; clear n0_; (try clear hb); (try clear hb2); (try clear hk); (try clear hi)) | ((with_reducible refine gate_dst (N := 1) rfl ?_); refine box_event ?hg (N := 1) ?hd (cs := #[.bool false, .int .u32 0, .int .u32 0, .int .u32 0, .int .u32 0, .int .u32 0, .int .u32 0, .int .u32 0, .int .u32 0, .int .u32 0, .int .u32 0]) (t := 38) ?hr ?_; (case hd => rfl); (case hg => rfl); (case hr => first | (go_simp; done) | (go_simp; rfl)); intro gb115 hg w24 hbox hb; have n0_ := Aside0.mk (below_step (by repeat (first | (with_reducible first | exact HB.out | apply below_alloc | apply pw_below_drewN | apply below_drew1) | exact HB.out)) hb); have n1_ := Aside0.mk (hbox); have n2_ := Aside0.mk ((by rw [hg]; exact (below_size (by repeat (first | (with_reducible first | exact HB.out | apply below_alloc | apply pw_below_drewN | apply below_drew1) | exact HB.out))) : w.heap.size ≤ gb115)); have n3_ := Aside0.mk ((by rw [hg]; exact (below_size (by repeat (first | (with_reducible first | exact HB.out | apply below_alloc | apply pw_below_drewN | apply below_drew1) | exact HB.out))) : w.heap.size ≤ gb115)); clear HB; have HB := n0_; have BK115 := n1_; have GW115 := n2_; have GE115 := n3_; clear n0_ n1_ n2_ n3_; clear hb hbox hg; have hcz25_0 : w24.cell? ⟨gb115, 0, none⟩ = some (.bool false) := (blk_cell BK115.out 0).trans rfl; have hcz25_1 : w24.cell? ⟨gb115, 1, none⟩ = some (.int .u32 0) := (blk_cell BK115.out 1).trans rfl; have hcz25_2 : w24.cell? ⟨gb115, 2, none⟩ = some (.int .u32 0) := (blk_cell BK115.out 2).trans rfl; have hcz25_3 : w24.cell? ⟨gb115, 3, none⟩ = some (.int .u32 0) := (blk_cell BK115.out 3).trans rfl; have hcz25_4 : w24.cell? ⟨gb115, 4, none⟩ = some (.int .u32 0) := (blk_cell BK115.out 4).trans rfl; have hcz25_5 : w24.cell? ⟨gb115, 5, none⟩ = some (.int .u32 0) := (blk_cell BK115.out 5).trans rfl; have hcz25_6 : w24.cell? ⟨gb115, 6, none⟩ = some (.int .u32 0) := (blk_cell BK115.out 6).trans rfl; have hcz25_7 : w24.cell? ⟨gb115, 7, none⟩ = some (.int .u32 0) := (blk_cell BK115.out 7).trans rfl; have hcz25_8 : w24.cell? ⟨gb115, 8, none⟩ = some (.int .u32 0) := (blk_cell BK115.out 8).trans rfl; have hcz25_9 : w24.cell? ⟨gb115, 9, none⟩ = some (.int .u32 0) := (blk_cell BK115.out 9).trans rfl; have hcz25_10 : w24.cell? ⟨gb115, 10, none⟩ = some (.int .u32 0) := (blk_cell BK115.out 10).trans rfl; have hfz25_0 := blk_frozen BK115.out 0; have hfz25_1 := blk_frozen BK115.out 1; have hfz25_2 := blk_frozen BK115.out 2; have hfz25_3 := blk_frozen BK115.out 3; have hfz25_4 := blk_frozen BK115.out 4; have hfz25_5 := blk_frozen BK115.out 5; have hfz25_6 := blk_frozen BK115.out 6; have hfz25_7 := blk_frozen BK115.out 7; have hfz25_8 := blk_frozen BK115.out 8; have hfz25_9 := blk_frozen BK115.out 9; have hfz25_10 := blk_frozen BK115.out 10) | ((with_reducible refine gate_callee (f := 22) rfl ?_); refine goesL_ (some 11) rfl rfl Try.func22 (by kernel_rfl) rfl #[.pointer (some ⟨gb115, 0, none⟩), .int .i64 768, .int .u32 6152] rfl (by (try simp only [List.map_toArray, List.map_cons, List.map_nil]); first | done | rfl | (simp only [List.length_drop, List.length_take]; rfl)) ?_; (with_reducible refine (csr_File_Set.calls gb115 t104 t105 t106 t107 t108 t109 t110 t111 t112 t113 t114 768 6152 true t117 t118 t119 t120 t121 t122 t123 t124 t125 t126 t127 w _ ?side1 ?side2 A2.out).mono ?_); (case side1 => exact And.intro (by (with_reducible repeat (first | refine blk_drewN ?_ _ | refine blk_drew ?_ | refine blk_alloc ?_ _)); refine blk_put (cs := #[.bool t104, .int .u32 t105, .int .u32 t106, .int .u32 t107, .int .u32 t108, .int .u32 t109, .int .u32 t110, .int .u32 t111, .int .u32 t112, .int .u32 t113, .int .u32 0]) ?_ 10 _ rfl; (with_reducible repeat (first | refine blk_drewN ?_ _ | refine blk_drew ?_ | refine blk_alloc ?_ _)); refine blk_put (cs := #[.bool t104, .int .u32 t105, .int .u32 t106, .int .u32 t107, .int .u32 t108, .int .u32 t109, .int .u32 t110, .int .u32 t111, .int .u32 t112, .int .u32 0, .int .u32 0]) ?_ 9 _ rfl; (with_reducible repeat (first | refine blk_drewN ?_ _ | refine blk_drew ?_ | refine blk_alloc ?_ _)); refine blk_put (cs := #[.bool t104, .int .u32 t105, .int .u32 t106, .int .u32 t107, .int .u32 t108, .int .u32 t109, .int .u32 t110, .int .u32 t111, .int .u32 0, .int .u32 0, .int .u32 0]) ?_ 8 _ rfl; (with_reducible repeat (first | refine blk_drewN ?_ _ | refine blk_drew ?_ | refine blk_alloc ?_ _)); refine blk_put (cs := #[.bool t104, .int .u32 t105, .int .u32 t106, .int .u32 t107, .int .u32 t108, .int .u32 t109, .int .u32 t110, .int .u32 0, .int .u32 0, .int .u32 0, .int .u32 0]) ?_ 7 _ rfl; (with_reducible repeat (first | refine blk_drewN ?_ _ | refine blk_drew ?_ | refine blk_alloc ?_ _)); refine blk_put (cs := #[.bool t104, .int .u32 t105, .int .u32 t106, .int .u32 t107, .int .u32 t108, .int .u32 t109, .int .u32 0, .int .u32 0, .int .u32 0, .int .u32 0, .int .u32 0]) ?_ 6 _ rfl; (with_reducible repeat (first | refine blk_drewN ?_ _ | refine blk_drew ?_ | refine blk_alloc ?_ _)); refine blk_put (cs := #[.bool t104, .int .u32 t105, .int .u32 t106, .int .u32 t107, .int .u32 t108, .int .u32 0, .int .u32 0, .int .u32 0, .int .u32 0, .int .u32 0, .int .u32 0]) ?_ 5 _ rfl; (with_reducible repeat (first | refine blk_drewN ?_ _ | refine blk_drew ?_ | refine blk_alloc ?_ _)); refine blk_put (cs := #[.bool t104, .int .u32 t105, .int .u32 t106, .int .u32 t107, .int .u32 0, .int .u32 0, .int .u32 0, .int .u32 0, .int .u32 0, .int .u32 0, .int .u32 0]) ?_ 4 _ rfl; (with_reducible repeat (first | refine blk_drewN ?_ _ | refine blk_drew ?_ | refine blk_alloc ?_ _)); refine blk_put (cs := #[.bool t104, .int .u32 t105, .int .u32 t106, .int .u32 0, .int .u32 0, .int .u32 0, .int .u32 0, .int .u32 0, .int .u32 0, .int .u32 0, .int .u32 0]) ?_ 3 _ rfl; (with_reducible repeat (first | refine blk_drewN ?_ _ | refine blk_drew ?_ | refine blk_alloc ?_ _)); refine blk_put (cs := #[.bool t104, .int .u32 t105, .int .u32 0, .int .u32 0, .int .u32 0, .int .u32 0, .int .u32 0, .int .u32 0, .int .u32 0, .int .u32 0, .int .u32 0]) ?_ 2 _ rfl; (with_reducible repeat (first | refine blk_drewN ?_ _ | refine blk_drew ?_ | refine blk_alloc ?_ _)); refine blk_put (cs := #[.bool t104, .int .u32 0, .int .u32 0, .int .u32 0, .int .u32 0, .int .u32 0, .int .u32 0, .int .u32 0, .int .u32 0, .int .u32 0, .int .u32 0]) ?_ 1 _ rfl; (with_reducible repeat (first | refine blk_drewN ?_ _ | refine blk_drew ?_ | refine blk_alloc ?_ _)); refine blk_put (cs := #[.bool false, .int .u32 0, .int .u32 0, .int .u32 0, .int .u32 0, .int .u32 0, .int .u32 0, .int .u32 0, .int .u32 0, .int .u32 0, .int .u32 0]) ?_ 0 _ rfl; (with_reducible repeat (first | refine blk_drewN ?_ _ | refine blk_drew ?_ | refine blk_alloc ?_ _)); exact BK115.out) GW115.out); (case side2 => repeat (first | (with_reducible first | exact HB.out | apply below_alloc | apply pw_below_drewN | apply below_drew1 | refine below_set ?_ GE115.out) | exact HB.out)); rintro e w26 ⟨rfl, hi, hb, hk⟩; refine ⟨_, rfl, ?_⟩; have n0_ := Aside0.mk (hb); have n1_ := Aside0.mk ((And.left hi)); clear HB; clear BK115; have HB := n0_; have BK115 := n1_; clear n0_ n1_; (try clear hb); (try clear hb2); (try clear hk); (try clear hi)) | ((with_reducible refine gate_callee (f := 23) rfl ?_); refine goesL_ (some 13) rfl rfl Try.func23 (by kernel_rfl) rfl #[.pointer (some ⟨gb115, 0, none⟩), .int .i64 768] rfl (by (try simp only [List.map_toArray, List.map_cons, List.map_nil]); first | done | rfl | (simp only [List.length_drop, List.length_take]; rfl)) ?_; (with_reducible refine (csr_File_Get.calls gb115 t117 t118 t119 t120 t121 t122 t123 t124 t125 t126 t127 768 t128 true t130 t131 t132 t133 t134 t135 t136 t137 t138 t139 t140 w _ ?side1 ?side2 A3.out).mono ?_); (case side1 => exact And.intro (by (with_reducible repeat (first | refine blk_drewN ?_ _ | refine blk_drew ?_ | refine blk_alloc ?_ _)); exact BK115.out) GW115.out); (case side2 => repeat (first | (with_reducible first | exact HB.out | apply below_alloc | apply pw_below_drewN | apply below_drew1 | refine below_set ?_ GE115.out) | exact HB.out)); rintro e w27 ⟨rfl, hi, hb, hk⟩; refine ⟨_, rfl, ?_⟩; have n0_ := Aside0.mk (hb); have n1_ := Aside0.mk ((And.left hi)); clear HB; clear BK115; have HB := n0_; have BK115 := n1_; clear n0_ n1_; (try clear hb); (try clear hb2); (try clear hk); (try clear hi)) | ((with_reducible refine gate_callee (f := 22) rfl ?_); refine goesL_ (some 16) rfl rfl Try.func22 (by kernel_rfl) rfl #[.pointer (some ⟨gb115, 0, none⟩), .int .i64 773, .int .u32 7] rfl (by (try simp only [List.map_toArray, List.map_cons, List.map_nil]); first | done | rfl | (simp only [List.length_drop, List.length_take]; rfl)) ?_; (with_reducible refine (csr_File_Set.calls gb115 t130 t131 t132 t133 t134 t135 t136 t137 t138 t139 t140 773 7 true t142 t143 t144 t145 t146 t147 t148 t149 t150 t151 t152 w _ ?side1 ?side2 A4.out).mono ?_); (case side1 => exact And.intro (by (with_reducible repeat (first | refine blk_drewN ?_ _ | refine blk_drew ?_ | refine blk_alloc ?_ _)); exact BK115.out) GW115.out); (case side2 => repeat (first | (with_reducible first | exact HB.out | apply below_alloc | apply pw_below_drewN | apply below_drew1 | refine below_set ?_ GE115.out) | exact HB.out)); rintro e w28 ⟨rfl, hi, hb, hk⟩; refine ⟨_, rfl, ?_⟩; have n0_ := Aside0.mk (hb); have n1_ := Aside0.mk ((And.left hi)); clear HB; clear BK115; have HB := n0_; have BK115 := n1_; clear n0_ n1_; (try clear hb); (try clear hb2); (try clear hk); (try clear hi)) | ((with_reducible refine gate_callee (f := 23) rfl ?_); refine goesL_ (some 18) rfl rfl Try.func23 (by kernel_rfl) rfl #[.pointer (some ⟨gb115, 0, none⟩), .int .i64 773] rfl (by (try simp only [List.map_toArray, List.map_cons, List.map_nil]); first | done | rfl | (simp only [List.length_drop, List.length_take]; rfl)) ?_; (with_reducible refine (csr_File_Get.calls gb115 t142 t143 t144 t145 t146 t147 t148 t149 t150 t151 t152 773 t153 t154 t155 t156 t157 t158 t159 t160 t161 t162 t163 t164 t165 w _ ?side1 ?side2 A5.out).mono ?_); (case side1 => exact And.intro (by (with_reducible repeat (first | refine blk_drewN ?_ _ | refine blk_drew ?_ | refine blk_alloc ?_ _)); exact BK115.out) GW115.out); (case side2 => repeat (first | (with_reducible first | exact HB.out | apply below_alloc | apply pw_below_drewN | apply below_drew1 | refine below_set ?_ GE115.out) | exact HB.out)); rintro e w29 ⟨rfl, hi, hb, hk⟩; refine ⟨_, rfl, ?_⟩; have n0_ := Aside0.mk (hb); have n1_ := Aside0.mk ((And.left hi)); clear HB; clear BK115; have HB := n0_; have BK115 := n1_; clear n0_ n1_; (try clear hb); (try clear hb2); (try clear hk); (try clear hi)) | ((with_reducible refine gate_callee (f := 23) rfl ?_); refine goesL_ (some 22) rfl rfl Try.func23 (by kernel_rfl) rfl #[.pointer (some ⟨gb115, 0, none⟩), .int .i64 3860] rfl (by (try simp only [List.map_toArray, List.map_cons, List.map_nil]); first | done | rfl | (simp only [List.length_drop, List.length_take]; rfl)) ?_; (with_reducible refine (csr_File_Get.calls gb115 t155 t156 t157 t158 t159 t160 t161 t162 t163 t164 t165 3860 t166 t167 t168 t169 t170 t171 t172 t173 t174 t175 t176 t177 t178 w _ ?side1 ?side2 A6.out).mono ?_); (case side1 => exact And.intro (by (with_reducible repeat (first | refine blk_drewN ?_ _ | refine blk_drew ?_ | refine blk_alloc ?_ _)); exact BK115.out) GW115.out); (case side2 => repeat (first | (with_reducible first | exact HB.out | apply below_alloc | apply pw_below_drewN | apply below_drew1 | refine below_set ?_ GE115.out) | exact HB.out)); rintro e w30 ⟨rfl, hi, hb, hk⟩; refine ⟨_, rfl, ?_⟩; have n0_ := Aside0.mk (hb); have n1_ := Aside0.mk ((And.left hi)); clear HB; clear BK115; have HB := n0_; have BK115 := n1_; clear n0_ n1_; (try clear hb); (try clear hb2); (try clear hk); (try clear hi)))
              go_ret
              exact ⟨by first | rfl | (simp [errW_none, errW_some] <;> rfl) | (simp [*, errW_none, errW_some] <;> rfl), by repeat (first | (with_reducible first | exact HB.out | apply below_alloc | apply pw_below_drewN | apply below_drew1 | refine below_set ?_ GE115.out) | exact HB.out)⟩
          · rw [if_neg c11] at H
            have c11b0 : (t153 == 4) = false := beq_eq_false_iff_ne.mpr c11
            have c11b1 : (t153 != 4) = true := bne_iff_ne.mpr c11
            obtain rfl := Option.some.inj H
            go_enter Try.func20, Try.ntmps20
            go_wp2_with (first | ((with_reducible refine gate_callee (f := 21) rfl ?_); refine goesL_ (some 10) rfl rfl Try.func21 (by kernel_rfl) rfl #[.int .i64 3] rfl (by (try simp only [List.map_toArray, List.map_cons, List.map_nil]); first | done | rfl | (simp only [List.length_drop, List.length_take]; rfl)) ?_; (with_reducible refine (csr_New.calls 3 t104 t105 t106 t107 t108 t109 t110 t111 t112 t113 t114 _ A1.out).mono ?_); rintro e w31 ⟨rfl, hb⟩; refine ⟨_, rfl, ?_⟩; have n0_ := Aside0.mk (below_step (by repeat (first | (with_reducible first | exact HB.out | apply below_alloc | apply pw_below_drewN | apply below_drew1) | exact HB.out)) hb); clear HB; have HB := n0_; clear n0_; (try clear hb); (try clear hb2); (try clear hk); (try clear hi)) | ((with_reducible refine gate_dst (N := 1) rfl ?_); refine box_event ?hg (N := 1) ?hd (cs := #[.bool false, .int .u32 0, .int .u32 0, .int .u32 0, .int .u32 0, .int .u32 0, .int .u32 0, .int .u32 0, .int .u32 0, .int .u32 0, .int .u32 0]) (t := 38) ?hr ?_; (case hd => rfl); (case hg => rfl); (case hr => first | (go_simp; done) | (go_simp; rfl)); intro gb115 hg w32 hbox hb; have n0_ := Aside0.mk (below_step (by repeat (first | (with_reducible first | exact HB.out | apply below_alloc | apply pw_below_drewN | apply below_drew1) | exact HB.out)) hb); have n1_ := Aside0.mk (hbox); have n2_ := Aside0.mk ((by rw [hg]; exact (below_size (by repeat (first | (with_reducible first | exact HB.out | apply below_alloc | apply pw_below_drewN | apply below_drew1) | exact HB.out))) : w.heap.size ≤ gb115)); have n3_ := Aside0.mk ((by rw [hg]; exact (below_size (by repeat (first | (with_reducible first | exact HB.out | apply below_alloc | apply pw_below_drewN | apply below_drew1) | exact HB.out))) : w.heap.size ≤ gb115)); clear HB; have HB := n0_; have BK115 := n1_; have GW115 := n2_; have GE115 := n3_; clear n0_ n1_ n2_ n3_; clear hb hbox hg; have hcz33_0 : w32.cell? ⟨gb115, 0, none⟩ = some (.bool false) := (blk_cell BK115.out 0).trans rfl; have hcz33_1 : w32.cell? ⟨gb115, 1, none⟩ = some (.int .u32 0) := (blk_cell BK115.out 1).trans rfl; have hcz33_2 : w32.cell? ⟨gb115, 2, none⟩ = some (.int .u32 0) := (blk_cell BK115.out 2).trans rfl; have hcz33_3 : w32.cell? ⟨gb115, 3, none⟩ = some (.int .u32 0) := (blk_cell BK115.out 3).trans rfl; have hcz33_4 : w32.cell? ⟨gb115, 4, none⟩ = some (.int .u32 0) := (blk_cell BK115.out 4).trans rfl; have hcz33_5 : w32.cell? ⟨gb115, 5, none⟩ = some (.int .u32 0) := (blk_cell BK115.out 5).trans rfl; have hcz33_6 : w32.cell? ⟨gb115, 6, none⟩ = some (.int .u32 0) := (blk_cell BK115.out 6).trans rfl; have hcz33_7 : w32.cell? ⟨gb115, 7, none⟩ = some (.int .u32 0) := (blk_cell BK115.out 7).trans rfl; have hcz33_8 : w32.cell? ⟨gb115, 8, none⟩ = some (.int .u32 0) := (blk_cell BK115.out 8).trans rfl; have hcz33_9 : w32.cell? ⟨gb115, 9, none⟩ = some (.int .u32 0) := (blk_cell BK115.out 9).trans rfl; have hcz33_10 : w32.cell? ⟨gb115, 10, none⟩ = some (.int .u32 0) := (blk_cell BK115.out 10).trans rfl; have hfz33_0 := blk_frozen BK115.out 0; have hfz33_1 := blk_frozen BK115.out 1; have hfz33_2 := blk_frozen BK115.out 2; have hfz33_3 := blk_frozen BK115.out 3; have hfz33_4 := blk_frozen BK115.out 4; have hfz33_5 := blk_frozen BK115.out 5; have hfz33_6 := blk_frozen BK115.out 6; have hfz33_7 := blk_frozen BK115.out 7; have hfz33_8 := blk_frozen BK115.out 8; have hfz33_9 := blk_frozen BK115.out 9; have hfz33_10 := blk_frozen BK115.out 10) | ((with_reducible refine gate_callee (f := 22) rfl ?_); refine goesL_ (some 11) rfl rfl Try.func22 (by kernel_rfl) rfl #[.pointer (some ⟨gb115, 0, none⟩), .int .i64 768, .int .u32 6152] rfl (by (try simp only [List.map_toArray, List.map_cons, List.map_nil]); first | done | rfl | (simp only [List.length_drop, List.length_take]; rfl)) ?_; (with_reducible refine (csr_File_Set.calls gb115 t104 t105 t106 t107 t108 t109 t110 t111 t112 t113 t114 768 6152 true t117 t118 t119 t120 t121 t122 t123 t124 t125 t126 t127 w _ ?side1 ?side2 A2.out).mono ?_); (case side1 => exact And.intro (by (with_reducible repeat (first | refine blk_drewN ?_ _ | refine blk_drew ?_ | refine blk_alloc ?_ _)); refine blk_put (cs := #[.bool t104, .int .u32 t105, .int .u32 t106, .int .u32 t107, .int .u32 t108, .int .u32 t109, .int .u32 t110, .int .u32 t111, .int .u32 t112, .int .u32 t113, .int .u32 0]) ?_ 10 _ rfl; (with_reducible repeat (first | refine blk_drewN ?_ _ | refine blk_drew ?_ | refine blk_alloc ?_ _)); refine blk_put (cs := #[.bool t104, .int .u32 t105, .int .u32 t106, .int .u32 t107, .int .u32 t108, .int .u32 t109, .int .u32 t110, .int .u32 t111, .int .u32 t112, .int .u32 0, .int .u32 0]) ?_ 9 _ rfl; (with_reducible repeat (first | refine blk_drewN ?_ _ | refine blk_drew ?_ | refine blk_alloc ?_ _)); refine blk_put (cs := #[.bool t104, .int .u32 t105, .int .u32 t106, .int .u32 t107, .int .u32 t108, .int .u32 t109, .int .u32 t110, .int .u32 t111, .int .u32 0, .int .u32 0, .int .u32 0]) ?_ 8 _ rfl; (with_reducible repeat (first | refine blk_drewN ?_ _ | refine blk_drew ?_ | refine blk_alloc ?_ _)); refine blk_put (cs := #[.bool t104, .int .u32 t105, .int .u32 t106, .int .u32 t107, .int .u32 t108, .int .u32 t109, .int .u32 t110, .int .u32 0, .int .u32 0, .int .u32 0, .int .u32 0]) ?_ 7 _ rfl; (with_reducible repeat (first | refine blk_drewN ?_ _ | refine blk_drew ?_ | refine blk_alloc ?_ _)); refine blk_put (cs := #[.bool t104, .int .u32 t105, .int .u32 t106, .int .u32 t107, .int .u32 t108, .int .u32 t109, .int .u32 0, .int .u32 0, .int .u32 0, .int .u32 0, .int .u32 0]) ?_ 6 _ rfl; (with_reducible repeat (first | refine blk_drewN ?_ _ | refine blk_drew ?_ | refine blk_alloc ?_ _)); refine blk_put (cs := #[.bool t104, .int .u32 t105, .int .u32 t106, .int .u32 t107, .int .u32 t108, .int .u32 0, .int .u32 0, .int .u32 0, .int .u32 0, .int .u32 0, .int .u32 0]) ?_ 5 _ rfl; (with_reducible repeat (first | refine blk_drewN ?_ _ | refine blk_drew ?_ | refine blk_alloc ?_ _)); refine blk_put (cs := #[.bool t104, .int .u32 t105, .int .u32 t106, .int .u32 t107, .int .u32 0, .int .u32 0, .int .u32 0, .int .u32 0, .int .u32 0, .int .u32 0, .int .u32 0]) ?_ 4 _ rfl; (with_reducible repeat (first | refine blk_drewN ?_ _ | refine blk_drew ?_ | refine blk_alloc ?_ _)); refine blk_put (cs := #[.bool t104, .int .u32 t105, .int .u32 t106, .int .u32 0, .int .u32 0, .int .u32 0, .int .u32 0, .int .u32 0, .int .u32 0, .int .u32 0, .int .u32 0]) ?_ 3 _ rfl; (with_reducible repeat (first | refine blk_drewN ?_ _ | refine blk_drew ?_ | refine blk_alloc ?_ _)); refine blk_put (cs := #[.bool t104, .int .u32 t105, .int .u32 0, .int .u32 0, .int .u32 0, .int .u32 0, .int .u32 0, .int .u32 0, .int .u32 0, .int .u32 0, .int .u32 0]) ?_ 2 _ rfl; (with_reducible repeat (first | refine blk_drewN ?_ _ | refine blk_drew ?_ | refine blk_alloc ?_ _)); refine blk_put (cs := #[.bool t104, .int .u32 0, .int .u32 0, .int .u32 0, .int .u32 0, .int .u32 0, .int .u32 0, .int .u32 0, .int .u32 0, .int .u32 0, .int .u32 0]) ?_ 1 _ rfl; (with_reducible repeat (first | refine blk_drewN ?_ _ | refine blk_drew ?_ | refine blk_alloc ?_ _)); refine blk_put (cs := #[.bool false, .int .u32 0, .int .u32 0, .int .u32 0, .int .u32 0, .int .u32 0, .int .u32 0, .int .u32 0, .int .u32 0, .int .u32 0, .int .u32 0]) ?_ 0 _ rfl; (with_reducible repeat (first | refine blk_drewN ?_ _ | refine blk_drew ?_ | refine blk_alloc ?_ _)); exact BK115.out) GW115.out); (case side2 => repeat (first | (with_reducible first | exact HB.out | apply below_alloc | apply pw_below_drewN | apply below_drew1 | refine below_set ?_ GE115.out) | exact HB.out)); rintro e w34 ⟨rfl, hi, hb, hk⟩; refine ⟨_, rfl, ?_⟩; have n0_ := Aside0.mk (hb); have n1_ := Aside0.mk ((And.left hi)); clear HB; clear BK115; have HB := n0_; have BK115 := n1_; clear n0_ n1_; (try clear hb); (try clear hb2); (try clear hk); (try clear hi)) | ((with_reducible refine gate_callee (f := 23) rfl ?_); refine goesL_ (some 13) rfl rfl Try.func23 (by kernel_rfl) rfl #[.pointer (some ⟨gb115, 0, none⟩), .int .i64 768] rfl (by (try simp only [List.map_toArray, List.map_cons, List.map_nil]); first | done | rfl | (simp only [List.length_drop, List.length_take]; rfl)) ?_; (with_reducible refine (csr_File_Get.calls gb115 t117 t118 t119 t120 t121 t122 t123 t124 t125 t126 t127 768 t128 true t130 t131 t132 t133 t134 t135 t136 t137 t138 t139 t140 w _ ?side1 ?side2 A3.out).mono ?_); (case side1 => exact And.intro (by (with_reducible repeat (first | refine blk_drewN ?_ _ | refine blk_drew ?_ | refine blk_alloc ?_ _)); exact BK115.out) GW115.out); (case side2 => repeat (first | (with_reducible first | exact HB.out | apply below_alloc | apply pw_below_drewN | apply below_drew1 | refine below_set ?_ GE115.out) | exact HB.out)); rintro e w35 ⟨rfl, hi, hb, hk⟩; refine ⟨_, rfl, ?_⟩; have n0_ := Aside0.mk (hb); have n1_ := Aside0.mk ((And.left hi)); clear HB; clear BK115; have HB := n0_; have BK115 := n1_; clear n0_ n1_; (try clear hb); (try clear hb2); (try clear hk); (try clear hi)) | ((with_reducible refine gate_callee (f := 22) rfl ?_); refine goesL_ (some 16) rfl rfl Try.func22 (by kernel_rfl) rfl #[.pointer (some ⟨gb115, 0, none⟩), .int .i64 773, .int .u32 7] rfl (by (try simp only [List.map_toArray, List.map_cons, List.map_nil]); first | done | rfl | (simp only [List.length_drop, List.length_take]; rfl)) ?_; (with_reducible refine (csr_File_Set.calls gb115 t130 t131 t132 t133 t134 t135 t136 t137 t138 t139 t140 773 7 true t142 t143 t144 t145 t146 t147 t148 t149 t150 t151 t152 w _ ?side1 ?side2 A4.out).mono ?_); (case side1 => exact And.intro (by (with_reducible repeat (first | refine blk_drewN ?_ _ | refine blk_drew ?_ | refine blk_alloc ?_ _)); exact BK115.out) GW115.out); (case side2 => repeat (first | (with_reducible first | exact HB.out | apply below_alloc | apply pw_below_drewN | apply below_drew1 | refine below_set ?_ GE115.out) | exact HB.out)); rintro e w36 ⟨rfl, hi, hb, hk⟩; refine ⟨_, rfl, ?_⟩; have n0_ := Aside0.mk (hb); have n1_ := Aside0.mk ((And.left hi)); clear HB; clear BK115; have HB := n0_; have BK115 := n1_; clear n0_ n1_; (try clear hb); (try clear hb2); (try clear hk); (try clear hi)) | ((with_reducible refine gate_callee (f := 23) rfl ?_); refine goesL_ (some 18) rfl rfl Try.func23 (by kernel_rfl) rfl #[.pointer (some ⟨gb115, 0, none⟩), .int .i64 773] rfl (by (try simp only [List.map_toArray, List.map_cons, List.map_nil]); first | done | rfl | (simp only [List.length_drop, List.length_take]; rfl)) ?_; (with_reducible refine (csr_File_Get.calls gb115 t142 t143 t144 t145 t146 t147 t148 t149 t150 t151 t152 773 t153 t154 t155 t156 t157 t158 t159 t160 t161 t162 t163 t164 t165 w _ ?side1 ?side2 A5.out).mono ?_); (case side1 => exact And.intro (by (with_reducible repeat (first | refine blk_drewN ?_ _ | refine blk_drew ?_ | refine blk_alloc ?_ _)); exact BK115.out) GW115.out); (case side2 => repeat (first | (with_reducible first | exact HB.out | apply below_alloc | apply pw_below_drewN | apply below_drew1 | refine below_set ?_ GE115.out) | exact HB.out)); rintro e w37 ⟨rfl, hi, hb, hk⟩; refine ⟨_, rfl, ?_⟩; have n0_ := Aside0.mk (hb); have n1_ := Aside0.mk ((And.left hi)); clear HB; clear BK115; have HB := n0_; have BK115 := n1_; clear n0_ n1_; (try clear hb); (try clear hb2); (try clear hk); (try clear hi)) | ((with_reducible refine gate_callee (f := 23) rfl ?_); refine goesL_ (some 22) rfl rfl Try.func23 (by kernel_rfl) rfl #[.pointer (some ⟨gb115, 0, none⟩), .int .i64 3860] rfl (by (try simp only [List.map_toArray, List.map_cons, List.map_nil]); first | done | rfl | (simp only [List.length_drop, List.length_take]; rfl)) ?_; (with_reducible refine (csr_File_Get.calls gb115 t155 t156 t157 t158 t159 t160 t161 t162 t163 t164 t165 3860 t166 t167 t168 t169 t170 t171 t172 t173 t174 t175 t176 t177 t178 w _ ?side1 ?side2 A6.out).mono ?_); (case side1 => exact And.intro (by (with_reducible repeat (first | refine blk_drewN ?_ _ | refine blk_drew ?_ | refine blk_alloc ?_ _)); exact BK115.out) GW115.out); (case side2 => repeat (first | (with_reducible first | exact HB.out | apply below_alloc | apply pw_below_drewN | apply below_drew1 | refine below_set ?_ GE115.out) | exact HB.out)); rintro e w38 ⟨rfl, hi, hb, hk⟩; refine ⟨_, rfl, ?_⟩; have n0_ := Aside0.mk (hb); have n1_ := Aside0.mk ((And.left hi)); clear HB; clear BK115; have HB := n0_; have BK115 := n1_; clear n0_ n1_; (try clear hb); (try clear hb2); (try clear hk); (try clear hi)))
            go_ret
            exact ⟨by first | rfl | (simp [errW_none, errW_some] <;> rfl) | (simp [*, errW_none, errW_some] <;> rfl), by repeat (first | (with_reducible first | exact HB.out | apply below_alloc | apply pw_below_drewN | apply below_drew1 | refine below_set ?_ GE115.out) | exact HB.out)⟩
        · replace c10 := Bool.eq_false_iff.mpr c10
          subst c10
          have H1 : (some false) = some r := by rw [if_neg (show ¬ (false = true) by decide)] at H; exact H
          clear H
          have H := H1
          clear H1
          obtain rfl := Option.some.inj H
          go_enter Try.func20, Try.ntmps20
          go_wp2_with (first | ((with_reducible refine gate_callee (f := 21) rfl ?_); refine goesL_ (some 10) rfl rfl Try.func21 (by kernel_rfl) rfl #[.int .i64 3] rfl (by (try simp only [List.map_toArray, List.map_cons, List.map_nil]); first | done | rfl | (simp only [List.length_drop, List.length_take]; rfl)) ?_; (with_reducible refine (csr_New.calls 3 t104 t105 t106 t107 t108 t109 t110 t111 t112 t113 t114 _ A1.out).mono ?_); rintro e w39 ⟨rfl, hb⟩; refine ⟨_, rfl, ?_⟩; have n0_ := Aside0.mk (below_step (by repeat (first | (with_reducible first | exact HB.out | apply below_alloc | apply pw_below_drewN | apply below_drew1) | exact HB.out)) hb); clear HB; have HB := n0_; clear n0_; (try clear hb); (try clear hb2); (try clear hk); (try clear hi)) | ((with_reducible refine gate_dst (N := 1) rfl ?_); refine box_event ?hg (N := 1) ?hd (cs := #[.bool false, .int .u32 0, .int .u32 0, .int .u32 0, .int .u32 0, .int .u32 0, .int .u32 0, .int .u32 0, .int .u32 0, .int .u32 0, .int .u32 0]) (t := 38) ?hr ?_; (case hd => rfl); (case hg => rfl); (case hr => first | (go_simp; done) | (go_simp; rfl)); intro gb115 hg w40 hbox hb; have n0_ := Aside0.mk (below_step (by repeat (first | (with_reducible first | exact HB.out | apply below_alloc | apply pw_below_drewN | apply below_drew1) | exact HB.out)) hb); have n1_ := Aside0.mk (hbox); have n2_ := Aside0.mk ((by rw [hg]; exact (below_size (by repeat (first | (with_reducible first | exact HB.out | apply below_alloc | apply pw_below_drewN | apply below_drew1) | exact HB.out))) : w.heap.size ≤ gb115)); have n3_ := Aside0.mk ((by rw [hg]; exact (below_size (by repeat (first | (with_reducible first | exact HB.out | apply below_alloc | apply pw_below_drewN | apply below_drew1) | exact HB.out))) : w.heap.size ≤ gb115)); clear HB; have HB := n0_; have BK115 := n1_; have GW115 := n2_; have GE115 := n3_; clear n0_ n1_ n2_ n3_; clear hb hbox hg; have hcz41_0 : w40.cell? ⟨gb115, 0, none⟩ = some (.bool false) := (blk_cell BK115.out 0).trans rfl; have hcz41_1 : w40.cell? ⟨gb115, 1, none⟩ = some (.int .u32 0) := (blk_cell BK115.out 1).trans rfl; have hcz41_2 : w40.cell? ⟨gb115, 2, none⟩ = some (.int .u32 0) := (blk_cell BK115.out 2).trans rfl; have hcz41_3 : w40.cell? ⟨gb115, 3, none⟩ = some (.int .u32 0) := (blk_cell BK115.out 3).trans rfl; have hcz41_4 : w40.cell? ⟨gb115, 4, none⟩ = some (.int .u32 0) := (blk_cell BK115.out 4).trans rfl; have hcz41_5 : w40.cell? ⟨gb115, 5, none⟩ = some (.int .u32 0) := (blk_cell BK115.out 5).trans rfl; have hcz41_6 : w40.cell? ⟨gb115, 6, none⟩ = some (.int .u32 0) := (blk_cell BK115.out 6).trans rfl; have hcz41_7 : w40.cell? ⟨gb115, 7, none⟩ = some (.int .u32 0) := (blk_cell BK115.out 7).trans rfl; have hcz41_8 : w40.cell? ⟨gb115, 8, none⟩ = some (.int .u32 0) := (blk_cell BK115.out 8).trans rfl; have hcz41_9 : w40.cell? ⟨gb115, 9, none⟩ = some (.int .u32 0) := (blk_cell BK115.out 9).trans rfl; have hcz41_10 : w40.cell? ⟨gb115, 10, none⟩ = some (.int .u32 0) := (blk_cell BK115.out 10).trans rfl; have hfz41_0 := blk_frozen BK115.out 0; have hfz41_1 := blk_frozen BK115.out 1; have hfz41_2 := blk_frozen BK115.out 2; have hfz41_3 := blk_frozen BK115.out 3; have hfz41_4 := blk_frozen BK115.out 4; have hfz41_5 := blk_frozen BK115.out 5; have hfz41_6 := blk_frozen BK115.out 6; have hfz41_7 := blk_frozen BK115.out 7; have hfz41_8 := blk_frozen BK115.out 8; have hfz41_9 := blk_frozen BK115.out 9; have hfz41_10 := blk_frozen BK115.out 10) | ((with_reducible refine gate_callee (f := 22) rfl ?_); refine goesL_ (some 11) rfl rfl Try.func22 (by kernel_rfl) rfl #[.pointer (some ⟨gb115, 0, none⟩), .int .i64 768, .int .u32 6152] rfl (by (try simp only [List.map_toArray, List.map_cons, List.map_nil]); first | done | rfl | (simp only [List.length_drop, List.length_take]; rfl)) ?_; (with_reducible refine (csr_File_Set.calls gb115 t104 t105 t106 t107 t108 t109 t110 t111 t112 t113 t114 768 6152 true t117 t118 t119 t120 t121 t122 t123 t124 t125 t126 t127 w _ ?side1 ?side2 A2.out).mono ?_); (case side1 => exact And.intro (by (with_reducible repeat (first | refine blk_drewN ?_ _ | refine blk_drew ?_ | refine blk_alloc ?_ _)); refine blk_put (cs := #[.bool t104, .int .u32 t105, .int .u32 t106, .int .u32 t107, .int .u32 t108, .int .u32 t109, .int .u32 t110, .int .u32 t111, .int .u32 t112, .int .u32 t113, .int .u32 0]) ?_ 10 _ rfl; (with_reducible repeat (first | refine blk_drewN ?_ _ | refine blk_drew ?_ | refine blk_alloc ?_ _)); refine blk_put (cs := #[.bool t104, .int .u32 t105, .int .u32 t106, .int .u32 t107, .int .u32 t108, .int .u32 t109, .int .u32 t110, .int .u32 t111, .int .u32 t112, .int .u32 0, .int .u32 0]) ?_ 9 _ rfl; (with_reducible repeat (first | refine blk_drewN ?_ _ | refine blk_drew ?_ | refine blk_alloc ?_ _)); refine blk_put (cs := #[.bool t104, .int .u32 t105, .int .u32 t106, .int .u32 t107, .int .u32 t108, .int .u32 t109, .int .u32 t110, .int .u32 t111, .int .u32 0, .int .u32 0, .int .u32 0]) ?_ 8 _ rfl; (with_reducible repeat (first | refine blk_drewN ?_ _ | refine blk_drew ?_ | refine blk_alloc ?_ _)); refine blk_put (cs := #[.bool t104, .int .u32 t105, .int .u32 t106, .int .u32 t107, .int .u32 t108, .int .u32 t109, .int .u32 t110, .int .u32 0, .int .u32 0, .int .u32 0, .int .u32 0]) ?_ 7 _ rfl; (with_reducible repeat (first | refine blk_drewN ?_ _ | refine blk_drew ?_ | refine blk_alloc ?_ _)); refine blk_put (cs := #[.bool t104, .int .u32 t105, .int .u32 t106, .int .u32 t107, .int .u32 t108, .int .u32 t109, .int .u32 0, .int .u32 0, .int .u32 0, .int .u32 0, .int .u32 0]) ?_ 6 _ rfl; (with_reducible repeat (first | refine blk_drewN ?_ _ | refine blk_drew ?_ | refine blk_alloc ?_ _)); refine blk_put (cs := #[.bool t104, .int .u32 t105, .int .u32 t106, .int .u32 t107, .int .u32 t108, .int .u32 0, .int .u32 0, .int .u32 0, .int .u32 0, .int .u32 0, .int .u32 0]) ?_ 5 _ rfl; (with_reducible repeat (first | refine blk_drewN ?_ _ | refine blk_drew ?_ | refine blk_alloc ?_ _)); refine blk_put (cs := #[.bool t104, .int .u32 t105, .int .u32 t106, .int .u32 t107, .int .u32 0, .int .u32 0, .int .u32 0, .int .u32 0, .int .u32 0, .int .u32 0, .int .u32 0]) ?_ 4 _ rfl; (with_reducible repeat (first | refine blk_drewN ?_ _ | refine blk_drew ?_ | refine blk_alloc ?_ _)); refine blk_put (cs := #[.bool t104, .int .u32 t105, .int .u32 t106, .int .u32 0, .int .u32 0, .int .u32 0, .int .u32 0, .int .u32 0, .int .u32 0, .int .u32 0, .int .u32 0]) ?_ 3 _ rfl; (with_reducible repeat (first | refine blk_drewN ?_ _ | refine blk_drew ?_ | refine blk_alloc ?_ _)); refine blk_put (cs := #[.bool t104, .int .u32 t105, .int .u32 0, .int .u32 0, .int .u32 0, .int .u32 0, .int .u32 0, .int .u32 0, .int .u32 0, .int .u32 0, .int .u32 0]) ?_ 2 _ rfl; (with_reducible repeat (first | refine blk_drewN ?_ _ | refine blk_drew ?_ | refine blk_alloc ?_ _)); refine blk_put (cs := #[.bool t104, .int .u32 0, .int .u32 0, .int .u32 0, .int .u32 0, .int .u32 0, .int .u32 0, .int .u32 0, .int .u32 0, .int .u32 0, .int .u32 0]) ?_ 1 _ rfl; (with_reducible repeat (first | refine blk_drewN ?_ _ | refine blk_drew ?_ | refine blk_alloc ?_ _)); refine blk_put (cs := #[.bool false, .int .u32 0, .int .u32 0, .int .u32 0, .int .u32 0, .int .u32 0, .int .u32 0, .int .u32 0, .int .u32 0, .int .u32 0, .int .u32 0]) ?_ 0 _ rfl; (with_reducible repeat (first | refine blk_drewN ?_ _ | refine blk_drew ?_ | refine blk_alloc ?_ _)); exact BK115.out) GW115.out); (case side2 => repeat (first | (with_reducible first | exact HB.out | apply below_alloc | apply pw_below_drewN | apply below_drew1 | refine below_set ?_ GE115.out) | exact HB.out)); rintro e w42 ⟨rfl, hi, hb, hk⟩; refine ⟨_, rfl, ?_⟩; have n0_ := Aside0.mk (hb); have n1_ := Aside0.mk ((And.left hi)); clear HB; clear BK115; have HB := n0_; have BK115 := n1_; clear n0_ n1_; (try clear hb); (try clear hb2); (try clear hk); (try clear hi)) | ((with_reducible refine gate_callee (f := 23) rfl ?_); refine goesL_ (some 13) rfl rfl Try.func23 (by kernel_rfl) rfl #[.pointer (some ⟨gb115, 0, none⟩), .int .i64 768] rfl (by (try simp only [List.map_toArray, List.map_cons, List.map_nil]); first | done | rfl | (simp only [List.length_drop, List.length_take]; rfl)) ?_; (with_reducible refine (csr_File_Get.calls gb115 t117 t118 t119 t120 t121 t122 t123 t124 t125 t126 t127 768 t128 true t130 t131 t132 t133 t134 t135 t136 t137 t138 t139 t140 w _ ?side1 ?side2 A3.out).mono ?_); (case side1 => exact And.intro (by (with_reducible repeat (first | refine blk_drewN ?_ _ | refine blk_drew ?_ | refine blk_alloc ?_ _)); exact BK115.out) GW115.out); (case side2 => repeat (first | (with_reducible first | exact HB.out | apply below_alloc | apply pw_below_drewN | apply below_drew1 | refine below_set ?_ GE115.out) | exact HB.out)); rintro e w43 ⟨rfl, hi, hb, hk⟩; refine ⟨_, rfl, ?_⟩; have n0_ := Aside0.mk (hb); have n1_ := Aside0.mk ((And.left hi)); clear HB; clear BK115; have HB := n0_; have BK115 := n1_; clear n0_ n1_; (try clear hb); (try clear hb2); (try clear hk); (try clear hi)) | ((with_reducible refine gate_callee (f := 22) rfl ?_); refine goesL_ (some 16) rfl rfl Try.func22 (by kernel_rfl) rfl #[.pointer (some ⟨gb115, 0, none⟩), .int .i64 773, .int .u32 7] rfl (by (try simp only [List.map_toArray, List.map_cons, List.map_nil]); first | done | rfl | (simp only [List.length_drop, List.length_take]; rfl)) ?_; (with_reducible refine (csr_File_Set.calls gb115 t130 t131 t132 t133 t134 t135 t136 t137 t138 t139 t140 773 7 false t142 t143 t144 t145 t146 t147 t148 t149 t150 t151 t152 w _ ?side1 ?side2 A4.out).mono ?_); (case side1 => exact And.intro (by (with_reducible repeat (first | refine blk_drewN ?_ _ | refine blk_drew ?_ | refine blk_alloc ?_ _)); exact BK115.out) GW115.out); (case side2 => repeat (first | (with_reducible first | exact HB.out | apply below_alloc | apply pw_below_drewN | apply below_drew1 | refine below_set ?_ GE115.out) | exact HB.out)); rintro e w44 ⟨rfl, hi, hb, hk⟩; refine ⟨_, rfl, ?_⟩; have n0_ := Aside0.mk (hb); have n1_ := Aside0.mk ((And.left hi)); clear HB; clear BK115; have HB := n0_; have BK115 := n1_; clear n0_ n1_; (try clear hb); (try clear hb2); (try clear hk); (try clear hi)) | ((with_reducible refine gate_callee (f := 23) rfl ?_); refine goesL_ (some 18) rfl rfl Try.func23 (by kernel_rfl) rfl #[.pointer (some ⟨gb115, 0, none⟩), .int .i64 773] rfl (by (try simp only [List.map_toArray, List.map_cons, List.map_nil]); first | done | rfl | (simp only [List.length_drop, List.length_take]; rfl)) ?_; (with_reducible refine (csr_File_Get.calls gb115 t142 t143 t144 t145 t146 t147 t148 t149 t150 t151 t152 773 t153 t154 t155 t156 t157 t158 t159 t160 t161 t162 t163 t164 t165 w _ ?side1 ?side2 A5.out).mono ?_); (case side1 => exact And.intro (by (with_reducible repeat (first | refine blk_drewN ?_ _ | refine blk_drew ?_ | refine blk_alloc ?_ _)); exact BK115.out) GW115.out); (case side2 => repeat (first | (with_reducible first | exact HB.out | apply below_alloc | apply pw_below_drewN | apply below_drew1 | refine below_set ?_ GE115.out) | exact HB.out)); rintro e w45 ⟨rfl, hi, hb, hk⟩; refine ⟨_, rfl, ?_⟩; have n0_ := Aside0.mk (hb); have n1_ := Aside0.mk ((And.left hi)); clear HB; clear BK115; have HB := n0_; have BK115 := n1_; clear n0_ n1_; (try clear hb); (try clear hb2); (try clear hk); (try clear hi)) | ((with_reducible refine gate_callee (f := 23) rfl ?_); refine goesL_ (some 22) rfl rfl Try.func23 (by kernel_rfl) rfl #[.pointer (some ⟨gb115, 0, none⟩), .int .i64 3860] rfl (by (try simp only [List.map_toArray, List.map_cons, List.map_nil]); first | done | rfl | (simp only [List.length_drop, List.length_take]; rfl)) ?_; (with_reducible refine (csr_File_Get.calls gb115 t155 t156 t157 t158 t159 t160 t161 t162 t163 t164 t165 3860 t166 t167 t168 t169 t170 t171 t172 t173 t174 t175 t176 t177 t178 w _ ?side1 ?side2 A6.out).mono ?_); (case side1 => exact And.intro (by (with_reducible repeat (first | refine blk_drewN ?_ _ | refine blk_drew ?_ | refine blk_alloc ?_ _)); exact BK115.out) GW115.out); (case side2 => repeat (first | (with_reducible first | exact HB.out | apply below_alloc | apply pw_below_drewN | apply below_drew1 | refine below_set ?_ GE115.out) | exact HB.out)); rintro e w46 ⟨rfl, hi, hb, hk⟩; refine ⟨_, rfl, ?_⟩; have n0_ := Aside0.mk (hb); have n1_ := Aside0.mk ((And.left hi)); clear HB; clear BK115; have HB := n0_; have BK115 := n1_; clear n0_ n1_; (try clear hb); (try clear hb2); (try clear hk); (try clear hi)))
          go_ret
          exact ⟨by first | rfl | (simp [errW_none, errW_some] <;> rfl) | (simp [*, errW_none, errW_some] <;> rfl), by repeat (first | (with_reducible first | exact HB.out | apply below_alloc | apply pw_below_drewN | apply below_drew1 | refine below_set ?_ GE115.out) | exact HB.out)⟩
      · rw [if_neg c9] at H
        have c9b0 : (t128 == 6152) = false := beq_eq_false_iff_ne.mpr c9
        have c9b1 : (t128 != 6152) = true := bne_iff_ne.mpr c9
        obtain rfl := Option.some.inj H
        go_enter Try.func20, Try.ntmps20
        go_wp2_with (first | ((with_reducible refine gate_callee (f := 21) rfl ?_); refine goesL_ (some 10) rfl rfl Try.func21 (by kernel_rfl) rfl #[.int .i64 3] rfl (by (try simp only [List.map_toArray, List.map_cons, List.map_nil]); first | done | rfl | (simp only [List.length_drop, List.length_take]; rfl)) ?_; (with_reducible refine (csr_New.calls 3 t104 t105 t106 t107 t108 t109 t110 t111 t112 t113 t114 _ A1.out).mono ?_); rintro e w47 ⟨rfl, hb⟩; refine ⟨_, rfl, ?_⟩; have n0_ := Aside0.mk (below_step (by repeat (first | (with_reducible first | exact HB.out | apply below_alloc | apply pw_below_drewN | apply below_drew1) | exact HB.out)) hb); clear HB; have HB := n0_; clear n0_; (try clear hb); (try clear hb2); (try clear hk); (try clear hi)) | ((with_reducible refine gate_dst (N := 1) rfl ?_); refine box_event ?hg (N := 1) ?hd (cs := #[.bool false, .int .u32 0, .int .u32 0, .int .u32 0, .int .u32 0, .int .u32 0, .int .u32 0, .int .u32 0, .int .u32 0, .int .u32 0, .int .u32 0]) (t := 38) ?hr ?_; (case hd => rfl); (case hg => rfl); (case hr => first | (go_simp; done) | (go_simp; rfl)); intro gb115 hg w48 hbox hb; have n0_ := Aside0.mk (below_step (by repeat (first | (with_reducible first | exact HB.out | apply below_alloc | apply pw_below_drewN | apply below_drew1) | exact HB.out)) hb); have n1_ := Aside0.mk (hbox); have n2_ := Aside0.mk ((by rw [hg]; exact (below_size (by repeat (first | (with_reducible first | exact HB.out | apply below_alloc | apply pw_below_drewN | apply below_drew1) | exact HB.out))) : w.heap.size ≤ gb115)); have n3_ := Aside0.mk ((by rw [hg]; exact (below_size (by repeat (first | (with_reducible first | exact HB.out | apply below_alloc | apply pw_below_drewN | apply below_drew1) | exact HB.out))) : w.heap.size ≤ gb115)); clear HB; have HB := n0_; have BK115 := n1_; have GW115 := n2_; have GE115 := n3_; clear n0_ n1_ n2_ n3_; clear hb hbox hg; have hcz49_0 : w48.cell? ⟨gb115, 0, none⟩ = some (.bool false) := (blk_cell BK115.out 0).trans rfl; have hcz49_1 : w48.cell? ⟨gb115, 1, none⟩ = some (.int .u32 0) := (blk_cell BK115.out 1).trans rfl; have hcz49_2 : w48.cell? ⟨gb115, 2, none⟩ = some (.int .u32 0) := (blk_cell BK115.out 2).trans rfl; have hcz49_3 : w48.cell? ⟨gb115, 3, none⟩ = some (.int .u32 0) := (blk_cell BK115.out 3).trans rfl; have hcz49_4 : w48.cell? ⟨gb115, 4, none⟩ = some (.int .u32 0) := (blk_cell BK115.out 4).trans rfl; have hcz49_5 : w48.cell? ⟨gb115, 5, none⟩ = some (.int .u32 0) := (blk_cell BK115.out 5).trans rfl; have hcz49_6 : w48.cell? ⟨gb115, 6, none⟩ = some (.int .u32 0) := (blk_cell BK115.out 6).trans rfl; have hcz49_7 : w48.cell? ⟨gb115, 7, none⟩ = some (.int .u32 0) := (blk_cell BK115.out 7).trans rfl; have hcz49_8 : w48.cell? ⟨gb115, 8, none⟩ = some (.int .u32 0) := (blk_cell BK115.out 8).trans rfl; have hcz49_9 : w48.cell? ⟨gb115, 9, none⟩ = some (.int .u32 0) := (blk_cell BK115.out 9).trans rfl; have hcz49_10 : w48.cell? ⟨gb115, 10, none⟩ = some (.int .u32 0) := (blk_cell BK115.out 10).trans rfl; have hfz49_0 := blk_frozen BK115.out 0; have hfz49_1 := blk_frozen BK115.out 1; have hfz49_2 := blk_frozen BK115.out 2; have hfz49_3 := blk_frozen BK115.out 3; have hfz49_4 := blk_frozen BK115.out 4; have hfz49_5 := blk_frozen BK115.out 5; have hfz49_6 := blk_frozen BK115.out 6; have hfz49_7 := blk_frozen BK115.out 7; have hfz49_8 := blk_frozen BK115.out 8; have hfz49_9 := blk_frozen BK115.out 9; have hfz49_10 := blk_frozen BK115.out 10) | ((with_reducible refine gate_callee (f := 22) rfl ?_); refine goesL_ (some 11) rfl rfl Try.func22 (by kernel_rfl) rfl #[.pointer (some ⟨gb115, 0, none⟩), .int .i64 768, .int .u32 6152] rfl (by (try simp only [List.map_toArray, List.map_cons, List.map_nil]); first | done | rfl | (simp only [List.length_drop, List.length_take]; rfl)) ?_; (with_reducible refine (csr_File_Set.calls gb115 t104 t105 t106 t107 t108 t109 t110 t111 t112 t113 t114 768 6152 true t117 t118 t119 t120 t121 t122 t123 t124 t125 t126 t127 w _ ?side1 ?side2 A2.out).mono ?_); (case side1 => exact And.intro (by (with_reducible repeat (first | refine blk_drewN ?_ _ | refine blk_drew ?_ | refine blk_alloc ?_ _)); refine blk_put (cs := #[.bool t104, .int .u32 t105, .int .u32 t106, .int .u32 t107, .int .u32 t108, .int .u32 t109, .int .u32 t110, .int .u32 t111, .int .u32 t112, .int .u32 t113, .int .u32 0]) ?_ 10 _ rfl; (with_reducible repeat (first | refine blk_drewN ?_ _ | refine blk_drew ?_ | refine blk_alloc ?_ _)); refine blk_put (cs := #[.bool t104, .int .u32 t105, .int .u32 t106, .int .u32 t107, .int .u32 t108, .int .u32 t109, .int .u32 t110, .int .u32 t111, .int .u32 t112, .int .u32 0, .int .u32 0]) ?_ 9 _ rfl; (with_reducible repeat (first | refine blk_drewN ?_ _ | refine blk_drew ?_ | refine blk_alloc ?_ _)); refine blk_put (cs := #[.bool t104, .int .u32 t105, .int .u32 t106, .int .u32 t107, .int .u32 t108, .int .u32 t109, .int .u32 t110, .int .u32 t111, .int .u32 0, .int .u32 0, .int .u32 0]) ?_ 8 _ rfl; (with_reducible repeat (first | refine blk_drewN ?_ _ | refine blk_drew ?_ | refine blk_alloc ?_ _)); refine blk_put (cs := #[.bool t104, .int .u32 t105, .int .u32 t106, .int .u32 t107, .int .u32 t108, .int .u32 t109, .int .u32 t110, .int .u32 0, .int .u32 0, .int .u32 0, .int .u32 0]) ?_ 7 _ rfl; (with_reducible repeat (first | refine blk_drewN ?_ _ | refine blk_drew ?_ | refine blk_alloc ?_ _)); refine blk_put (cs := #[.bool t104, .int .u32 t105, .int .u32 t106, .int .u32 t107, .int .u32 t108, .int .u32 t109, .int .u32 0, .int .u32 0, .int .u32 0, .int .u32 0, .int .u32 0]) ?_ 6 _ rfl; (with_reducible repeat (first | refine blk_drewN ?_ _ | refine blk_drew ?_ | refine blk_alloc ?_ _)); refine blk_put (cs := #[.bool t104, .int .u32 t105, .int .u32 t106, .int .u32 t107, .int .u32 t108, .int .u32 0, .int .u32 0, .int .u32 0, .int .u32 0, .int .u32 0, .int .u32 0]) ?_ 5 _ rfl; (with_reducible repeat (first | refine blk_drewN ?_ _ | refine blk_drew ?_ | refine blk_alloc ?_ _)); refine blk_put (cs := #[.bool t104, .int .u32 t105, .int .u32 t106, .int .u32 t107, .int .u32 0, .int .u32 0, .int .u32 0, .int .u32 0, .int .u32 0, .int .u32 0, .int .u32 0]) ?_ 4 _ rfl; (with_reducible repeat (first | refine blk_drewN ?_ _ | refine blk_drew ?_ | refine blk_alloc ?_ _)); refine blk_put (cs := #[.bool t104, .int .u32 t105, .int .u32 t106, .int .u32 0, .int .u32 0, .int .u32 0, .int .u32 0, .int .u32 0, .int .u32 0, .int .u32 0, .int .u32 0]) ?_ 3 _ rfl; (with_reducible repeat (first | refine blk_drewN ?_ _ | refine blk_drew ?_ | refine blk_alloc ?_ _)); refine blk_put (cs := #[.bool t104, .int .u32 t105, .int .u32 0, .int .u32 0, .int .u32 0, .int .u32 0, .int .u32 0, .int .u32 0, .int .u32 0, .int .u32 0, .int .u32 0]) ?_ 2 _ rfl; (with_reducible repeat (first | refine blk_drewN ?_ _ | refine blk_drew ?_ | refine blk_alloc ?_ _)); refine blk_put (cs := #[.bool t104, .int .u32 0, .int .u32 0, .int .u32 0, .int .u32 0, .int .u32 0, .int .u32 0, .int .u32 0, .int .u32 0, .int .u32 0, .int .u32 0]) ?_ 1 _ rfl; (with_reducible repeat (first | refine blk_drewN ?_ _ | refine blk_drew ?_ | refine blk_alloc ?_ _)); refine blk_put (cs := #[.bool false, .int .u32 0, .int .u32 0, .int .u32 0, .int .u32 0, .int .u32 0, .int .u32 0, .int .u32 0, .int .u32 0, .int .u32 0, .int .u32 0]) ?_ 0 _ rfl; (with_reducible repeat (first | refine blk_drewN ?_ _ | refine blk_drew ?_ | refine blk_alloc ?_ _)); exact BK115.out) GW115.out); (case side2 => repeat (first | (with_reducible first | exact HB.out | apply below_alloc | apply pw_below_drewN | apply below_drew1 | refine below_set ?_ GE115.out) | exact HB.out)); rintro e w50 ⟨rfl, hi, hb, hk⟩; refine ⟨_, rfl, ?_⟩; have n0_ := Aside0.mk (hb); have n1_ := Aside0.mk ((And.left hi)); clear HB; clear BK115; have HB := n0_; have BK115 := n1_; clear n0_ n1_; (try clear hb); (try clear hb2); (try clear hk); (try clear hi)) | ((with_reducible refine gate_callee (f := 23) rfl ?_); refine goesL_ (some 13) rfl rfl Try.func23 (by kernel_rfl) rfl #[.pointer (some ⟨gb115, 0, none⟩), .int .i64 768] rfl (by (try simp only [List.map_toArray, List.map_cons, List.map_nil]); first | done | rfl | (simp only [List.length_drop, List.length_take]; rfl)) ?_; (with_reducible refine (csr_File_Get.calls gb115 t117 t118 t119 t120 t121 t122 t123 t124 t125 t126 t127 768 t128 true t130 t131 t132 t133 t134 t135 t136 t137 t138 t139 t140 w _ ?side1 ?side2 A3.out).mono ?_); (case side1 => exact And.intro (by (with_reducible repeat (first | refine blk_drewN ?_ _ | refine blk_drew ?_ | refine blk_alloc ?_ _)); exact BK115.out) GW115.out); (case side2 => repeat (first | (with_reducible first | exact HB.out | apply below_alloc | apply pw_below_drewN | apply below_drew1 | refine below_set ?_ GE115.out) | exact HB.out)); rintro e w51 ⟨rfl, hi, hb, hk⟩; refine ⟨_, rfl, ?_⟩; have n0_ := Aside0.mk (hb); have n1_ := Aside0.mk ((And.left hi)); clear HB; clear BK115; have HB := n0_; have BK115 := n1_; clear n0_ n1_; (try clear hb); (try clear hb2); (try clear hk); (try clear hi)) | ((with_reducible refine gate_callee (f := 22) rfl ?_); refine goesL_ (some 16) rfl rfl Try.func22 (by kernel_rfl) rfl #[.pointer (some ⟨gb115, 0, none⟩), .int .i64 773, .int .u32 7] rfl (by (try simp only [List.map_toArray, List.map_cons, List.map_nil]); first | done | rfl | (simp only [List.length_drop, List.length_take]; rfl)) ?_; (with_reducible refine (csr_File_Set.calls gb115 t130 t131 t132 t133 t134 t135 t136 t137 t138 t139 t140 773 7 t141 t142 t143 t144 t145 t146 t147 t148 t149 t150 t151 t152 w _ ?side1 ?side2 A4.out).mono ?_); (case side1 => exact And.intro (by (with_reducible repeat (first | refine blk_drewN ?_ _ | refine blk_drew ?_ | refine blk_alloc ?_ _)); exact BK115.out) GW115.out); (case side2 => repeat (first | (with_reducible first | exact HB.out | apply below_alloc | apply pw_below_drewN | apply below_drew1 | refine below_set ?_ GE115.out) | exact HB.out)); rintro e w52 ⟨rfl, hi, hb, hk⟩; refine ⟨_, rfl, ?_⟩; have n0_ := Aside0.mk (hb); have n1_ := Aside0.mk ((And.left hi)); clear HB; clear BK115; have HB := n0_; have BK115 := n1_; clear n0_ n1_; (try clear hb); (try clear hb2); (try clear hk); (try clear hi)) | ((with_reducible refine gate_callee (f := 23) rfl ?_); refine goesL_ (some 18) rfl rfl Try.func23 (by kernel_rfl) rfl #[.pointer (some ⟨gb115, 0, none⟩), .int .i64 773] rfl (by (try simp only [List.map_toArray, List.map_cons, List.map_nil]); first | done | rfl | (simp only [List.length_drop, List.length_take]; rfl)) ?_; (with_reducible refine (csr_File_Get.calls gb115 t142 t143 t144 t145 t146 t147 t148 t149 t150 t151 t152 773 t153 t154 t155 t156 t157 t158 t159 t160 t161 t162 t163 t164 t165 w _ ?side1 ?side2 A5.out).mono ?_); (case side1 => exact And.intro (by (with_reducible repeat (first | refine blk_drewN ?_ _ | refine blk_drew ?_ | refine blk_alloc ?_ _)); exact BK115.out) GW115.out); (case side2 => repeat (first | (with_reducible first | exact HB.out | apply below_alloc | apply pw_below_drewN | apply below_drew1 | refine below_set ?_ GE115.out) | exact HB.out)); rintro e w53 ⟨rfl, hi, hb, hk⟩; refine ⟨_, rfl, ?_⟩; have n0_ := Aside0.mk (hb); have n1_ := Aside0.mk ((And.left hi)); clear HB; clear BK115; have HB := n0_; have BK115 := n1_; clear n0_ n1_; (try clear hb); (try clear hb2); (try clear hk); (try clear hi)) | ((with_reducible refine gate_callee (f := 23) rfl ?_); refine goesL_ (some 22) rfl rfl Try.func23 (by kernel_rfl) rfl #[.pointer (some ⟨gb115, 0, none⟩), .int .i64 3860] rfl (by (try simp only [List.map_toArray, List.map_cons, List.map_nil]); first | done | rfl | (simp only [List.length_drop, List.length_take]; rfl)) ?_; (with_reducible refine (csr_File_Get.calls gb115 t155 t156 t157 t158 t159 t160 t161 t162 t163 t164 t165 3860 t166 t167 t168 t169 t170 t171 t172 t173 t174 t175 t176 t177 t178 w _ ?side1 ?side2 A6.out).mono ?_); (case side1 => exact And.intro (by (with_reducible repeat (first | refine blk_drewN ?_ _ | refine blk_drew ?_ | refine blk_alloc ?_ _)); exact BK115.out) GW115.out); (case side2 => repeat (first | (with_reducible first | exact HB.out | apply below_alloc | apply pw_below_drewN | apply below_drew1 | refine below_set ?_ GE115.out) | exact HB.out)); rintro e w54 ⟨rfl, hi, hb, hk⟩; refine ⟨_, rfl, ?_⟩; have n0_ := Aside0.mk (hb); have n1_ := Aside0.mk ((And.left hi)); clear HB; clear BK115; have HB := n0_; have BK115 := n1_; clear n0_ n1_; (try clear hb); (try clear hb2); (try clear hk); (try clear hi)))
        go_ret
        exact ⟨by first | rfl | (simp [errW_none, errW_some] <;> rfl) | (simp [*, errW_none, errW_some] <;> rfl), by repeat (first | (with_reducible first | exact HB.out | apply below_alloc | apply pw_below_drewN | apply below_drew1 | refine below_set ?_ GE115.out) | exact HB.out)⟩
    · replace c8 := Bool.eq_false_iff.mpr c8
      subst c8
      have H1 : (some false) = some r := by rw [if_neg (show ¬ (false = true) by decide)] at H; exact H
      clear H
      have H := H1
      clear H1
      obtain rfl := Option.some.inj H
      go_enter Try.func20, Try.ntmps20
      go_wp2_with (first | ((with_reducible refine gate_callee (f := 21) rfl ?_); refine goesL_ (some 10) rfl rfl Try.func21 (by kernel_rfl) rfl #[.int .i64 3] rfl (by (try simp only [List.map_toArray, List.map_cons, List.map_nil]); first | done | rfl | (simp only [List.length_drop, List.length_take]; rfl)) ?_; (with_reducible refine (csr_New.calls 3 t104 t105 t106 t107 t108 t109 t110 t111 t112 t113 t114 _ A1.out).mono ?_); rintro e w55 ⟨rfl, hb⟩; refine ⟨_, rfl, ?_⟩; have n0_ := Aside0.mk (below_step (by repeat (first | (with_reducible first | exact HB.out | apply below_alloc | apply pw_below_drewN | apply below_drew1) | exact HB.out)) hb); clear HB; have HB := n0_; clear n0_; (try clear hb); (try clear hb2); (try clear hk); (try clear hi)) | ((with_reducible refine gate_dst (N := 1) rfl ?_); refine box_event ?hg (N := 1) ?hd (cs := #[.bool false, .int .u32 0, .int .u32 0, .int .u32 0, .int .u32 0, .int .u32 0, .int .u32 0, .int .u32 0, .int .u32 0, .int .u32 0, .int .u32 0]) (t := 38) ?hr ?_; (case hd => rfl); (case hg => rfl); (case hr => first | (go_simp; done) | (go_simp; rfl)); intro gb115 hg w56 hbox hb; have n0_ := Aside0.mk (below_step (by repeat (first | (with_reducible first | exact HB.out | apply below_alloc | apply pw_below_drewN | apply below_drew1) | exact HB.out)) hb); have n1_ := Aside0.mk (hbox); have n2_ := Aside0.mk ((by rw [hg]; exact (below_size (by repeat (first | (with_reducible first | exact HB.out | apply below_alloc | apply pw_below_drewN | apply below_drew1) | exact HB.out))) : w.heap.size ≤ gb115)); have n3_ := Aside0.mk ((by rw [hg]; exact (below_size (by repeat (first | (with_reducible first | exact HB.out | apply below_alloc | apply pw_below_drewN | apply below_drew1) | exact HB.out))) : w.heap.size ≤ gb115)); clear HB; have HB := n0_; have BK115 := n1_; have GW115 := n2_; have GE115 := n3_; clear n0_ n1_ n2_ n3_; clear hb hbox hg; have hcz57_0 : w56.cell? ⟨gb115, 0, none⟩ = some (.bool false) := (blk_cell BK115.out 0).trans rfl; have hcz57_1 : w56.cell? ⟨gb115, 1, none⟩ = some (.int .u32 0) := (blk_cell BK115.out 1).trans rfl; have hcz57_2 : w56.cell? ⟨gb115, 2, none⟩ = some (.int .u32 0) := (blk_cell BK115.out 2).trans rfl; have hcz57_3 : w56.cell? ⟨gb115, 3, none⟩ = some (.int .u32 0) := (blk_cell BK115.out 3).trans rfl; have hcz57_4 : w56.cell? ⟨gb115, 4, none⟩ = some (.int .u32 0) := (blk_cell BK115.out 4).trans rfl; have hcz57_5 : w56.cell? ⟨gb115, 5, none⟩ = some (.int .u32 0) := (blk_cell BK115.out 5).trans rfl; have hcz57_6 : w56.cell? ⟨gb115, 6, none⟩ = some (.int .u32 0) := (blk_cell BK115.out 6).trans rfl; have hcz57_7 : w56.cell? ⟨gb115, 7, none⟩ = some (.int .u32 0) := (blk_cell BK115.out 7).trans rfl; have hcz57_8 : w56.cell? ⟨gb115, 8, none⟩ = some (.int .u32 0) := (blk_cell BK115.out 8).trans rfl; have hcz57_9 : w56.cell? ⟨gb115, 9, none⟩ = some (.int .u32 0) := (blk_cell BK115.out 9).trans rfl; have hcz57_10 : w56.cell? ⟨gb115, 10, none⟩ = some (.int .u32 0) := (blk_cell BK115.out 10).trans rfl; have hfz57_0 := blk_frozen BK115.out 0; have hfz57_1 := blk_frozen BK115.out 1; have hfz57_2 := blk_frozen BK115.out 2; have hfz57_3 := blk_frozen BK115.out 3; have hfz57_4 := blk_frozen BK115.out 4; have hfz57_5 := blk_frozen BK115.out 5; have hfz57_6 := blk_frozen BK115.out 6; have hfz57_7 := blk_frozen BK115.out 7; have hfz57_8 := blk_frozen BK115.out 8; have hfz57_9 := blk_frozen BK115.out 9; have hfz57_10 := blk_frozen BK115.out 10) | ((with_reducible refine gate_callee (f := 22) rfl ?_); refine goesL_ (some 11) rfl rfl Try.func22 (by kernel_rfl) rfl #[.pointer (some ⟨gb115, 0, none⟩), .int .i64 768, .int .u32 6152] rfl (by (try simp only [List.map_toArray, List.map_cons, List.map_nil]); first | done | rfl | (simp only [List.length_drop, List.length_take]; rfl)) ?_; (with_reducible refine (csr_File_Set.calls gb115 t104 t105 t106 t107 t108 t109 t110 t111 t112 t113 t114 768 6152 true t117 t118 t119 t120 t121 t122 t123 t124 t125 t126 t127 w _ ?side1 ?side2 A2.out).mono ?_); (case side1 => exact And.intro (by (with_reducible repeat (first | refine blk_drewN ?_ _ | refine blk_drew ?_ | refine blk_alloc ?_ _)); refine blk_put (cs := #[.bool t104, .int .u32 t105, .int .u32 t106, .int .u32 t107, .int .u32 t108, .int .u32 t109, .int .u32 t110, .int .u32 t111, .int .u32 t112, .int .u32 t113, .int .u32 0]) ?_ 10 _ rfl; (with_reducible repeat (first | refine blk_drewN ?_ _ | refine blk_drew ?_ | refine blk_alloc ?_ _)); refine blk_put (cs := #[.bool t104, .int .u32 t105, .int .u32 t106, .int .u32 t107, .int .u32 t108, .int .u32 t109, .int .u32 t110, .int .u32 t111, .int .u32 t112, .int .u32 0, .int .u32 0]) ?_ 9 _ rfl; (with_reducible repeat (first | refine blk_drewN ?_ _ | refine blk_drew ?_ | refine blk_alloc ?_ _)); refine blk_put (cs := #[.bool t104, .int .u32 t105, .int .u32 t106, .int .u32 t107, .int .u32 t108, .int .u32 t109, .int .u32 t110, .int .u32 t111, .int .u32 0, .int .u32 0, .int .u32 0]) ?_ 8 _ rfl; (with_reducible repeat (first | refine blk_drewN ?_ _ | refine blk_drew ?_ | refine blk_alloc ?_ _)); refine blk_put (cs := #[.bool t104, .int .u32 t105, .int .u32 t106, .int .u32 t107, .int .u32 t108, .int .u32 t109, .int .u32 t110, .int .u32 0, .int .u32 0, .int .u32 0, .int .u32 0]) ?_ 7 _ rfl; (with_reducible repeat (first | refine blk_drewN ?_ _ | refine blk_drew ?_ | refine blk_alloc ?_ _)); refine blk_put (cs := #[.bool t104, .int .u32 t105, .int .u32 t106, .int .u32 t107, .int .u32 t108, .int .u32 t109, .int .u32 0, .int .u32 0, .int .u32 0, .int .u32 0, .int .u32 0]) ?_ 6 _ rfl; (with_reducible repeat (first | refine blk_drewN ?_ _ | refine blk_drew ?_ | refine blk_alloc ?_ _)); refine blk_put (cs := #[.bool t104, .int .u32 t105, .int .u32 t106, .int .u32 t107, .int .u32 t108, .int .u32 0, .int .u32 0, .int .u32 0, .int .u32 0, .int .u32 0, .int .u32 0]) ?_ 5 _ rfl; (with_reducible repeat (first | refine blk_drewN ?_ _ | refine blk_drew ?_ | refine blk_alloc ?_ _)); refine blk_put (cs := #[.bool t104, .int .u32 t105, .int .u32 t106, .int .u32 t107, .int .u32 0, .int .u32 0, .int .u32 0, .int .u32 0, .int .u32 0, .int .u32 0, .int .u32 0]) ?_ 4 _ rfl; (with_reducible repeat (first | refine blk_drewN ?_ _ | refine blk_drew ?_ | refine blk_alloc ?_ _)); refine blk_put (cs := #[.bool t104, .int .u32 t105, .int .u32 t106, .int .u32 0, .int .u32 0, .int .u32 0, .int .u32 0, .int .u32 0, .int .u32 0, .int .u32 0, .int .u32 0]) ?_ 3 _ rfl; (with_reducible repeat (first | refine blk_drewN ?_ _ | refine blk_drew ?_ | refine blk_alloc ?_ _)); refine blk_put (cs := #[.bool t104, .int .u32 t105, .int .u32 0, .int .u32 0, .int .u32 0, .int .u32 0, .int .u32 0, .int .u32 0, .int .u32 0, .int .u32 0, .int .u32 0]) ?_ 2 _ rfl; (with_reducible repeat (first | refine blk_drewN ?_ _ | refine blk_drew ?_ | refine blk_alloc ?_ _)); refine blk_put (cs := #[.bool t104, .int .u32 0, .int .u32 0, .int .u32 0, .int .u32 0, .int .u32 0, .int .u32 0, .int .u32 0, .int .u32 0, .int .u32 0, .int .u32 0]) ?_ 1 _ rfl; (with_reducible repeat (first | refine blk_drewN ?_ _ | refine blk_drew ?_ | refine blk_alloc ?_ _)); refine blk_put (cs := #[.bool false, .int .u32 0, .int .u32 0, .int .u32 0, .int .u32 0, .int .u32 0, .int .u32 0, .int .u32 0, .int .u32 0, .int .u32 0, .int .u32 0]) ?_ 0 _ rfl; (with_reducible repeat (first | refine blk_drewN ?_ _ | refine blk_drew ?_ | refine blk_alloc ?_ _)); exact BK115.out) GW115.out); (case side2 => repeat (first | (with_reducible first | exact HB.out | apply below_alloc | apply pw_below_drewN | apply below_drew1 | refine below_set ?_ GE115.out) | exact HB.out)); rintro e w58 ⟨rfl, hi, hb, hk⟩; refine ⟨_, rfl, ?_⟩; have n0_ := Aside0.mk (hb); have n1_ := Aside0.mk ((And.left hi)); clear HB; clear BK115; have HB := n0_; have BK115 := n1_; clear n0_ n1_; (try clear hb); (try clear hb2); (try clear hk); (try clear hi)) | ((with_reducible refine gate_callee (f := 23) rfl ?_); refine goesL_ (some 13) rfl rfl Try.func23 (by kernel_rfl) rfl #[.pointer (some ⟨gb115, 0, none⟩), .int .i64 768] rfl (by (try simp only [List.map_toArray, List.map_cons, List.map_nil]); first | done | rfl | (simp only [List.length_drop, List.length_take]; rfl)) ?_; (with_reducible refine (csr_File_Get.calls gb115 t117 t118 t119 t120 t121 t122 t123 t124 t125 t126 t127 768 t128 false t130 t131 t132 t133 t134 t135 t136 t137 t138 t139 t140 w _ ?side1 ?side2 A3.out).mono ?_); (case side1 => exact And.intro (by (with_reducible repeat (first | refine blk_drewN ?_ _ | refine blk_drew ?_ | refine blk_alloc ?_ _)); exact BK115.out) GW115.out); (case side2 => repeat (first | (with_reducible first | exact HB.out | apply below_alloc | apply pw_below_drewN | apply below_drew1 | refine below_set ?_ GE115.out) | exact HB.out)); rintro e w59 ⟨rfl, hi, hb, hk⟩; refine ⟨_, rfl, ?_⟩; have n0_ := Aside0.mk (hb); have n1_ := Aside0.mk ((And.left hi)); clear HB; clear BK115; have HB := n0_; have BK115 := n1_; clear n0_ n1_; (try clear hb); (try clear hb2); (try clear hk); (try clear hi)) | ((with_reducible refine gate_callee (f := 22) rfl ?_); refine goesL_ (some 16) rfl rfl Try.func22 (by kernel_rfl) rfl #[.pointer (some ⟨gb115, 0, none⟩), .int .i64 773, .int .u32 7] rfl (by (try simp only [List.map_toArray, List.map_cons, List.map_nil]); first | done | rfl | (simp only [List.length_drop, List.length_take]; rfl)) ?_; (with_reducible refine (csr_File_Set.calls gb115 t130 t131 t132 t133 t134 t135 t136 t137 t138 t139 t140 773 7 t141 t142 t143 t144 t145 t146 t147 t148 t149 t150 t151 t152 w _ ?side1 ?side2 A4.out).mono ?_); (case side1 => exact And.intro (by (with_reducible repeat (first | refine blk_drewN ?_ _ | refine blk_drew ?_ | refine blk_alloc ?_ _)); exact BK115.out) GW115.out); (case side2 => repeat (first | (with_reducible first | exact HB.out | apply below_alloc | apply pw_below_drewN | apply below_drew1 | refine below_set ?_ GE115.out) | exact HB.out)); rintro e w60 ⟨rfl, hi, hb, hk⟩; refine ⟨_, rfl, ?_⟩; have n0_ := Aside0.mk (hb); have n1_ := Aside0.mk ((And.left hi)); clear HB; clear BK115; have HB := n0_; have BK115 := n1_; clear n0_ n1_; (try clear hb); (try clear hb2); (try clear hk); (try clear hi)) | ((with_reducible refine gate_callee (f := 23) rfl ?_); refine goesL_ (some 18) rfl rfl Try.func23 (by kernel_rfl) rfl #[.pointer (some ⟨gb115, 0, none⟩), .int .i64 773] rfl (by (try simp only [List.map_toArray, List.map_cons, List.map_nil]); first | done | rfl | (simp only [List.length_drop, List.length_take]; rfl)) ?_; (with_reducible refine (csr_File_Get.calls gb115 t142 t143 t144 t145 t146 t147 t148 t149 t150 t151 t152 773 t153 t154 t155 t156 t157 t158 t159 t160 t161 t162 t163 t164 t165 w _ ?side1 ?side2 A5.out).mono ?_); (case side1 => exact And.intro (by (with_reducible repeat (first | refine blk_drewN ?_ _ | refine blk_drew ?_ | refine blk_alloc ?_ _)); exact BK115.out) GW115.out); (case side2 => repeat (first | (with_reducible first | exact HB.out | apply below_alloc | apply pw_below_drewN | apply below_drew1 | refine below_set ?_ GE115.out) | exact HB.out)); rintro e w61 ⟨rfl, hi, hb, hk⟩; refine ⟨_, rfl, ?_⟩; have n0_ := Aside0.mk (hb); have n1_ := Aside0.mk ((And.left hi)); clear HB; clear BK115; have HB := n0_; have BK115 := n1_; clear n0_ n1_; (try clear hb); (try clear hb2); (try clear hk); (try clear hi)) | ((with_reducible refine gate_callee (f := 23) rfl ?_); refine goesL_ (some 22) rfl rfl Try.func23 (by kernel_rfl) rfl #[.pointer (some ⟨gb115, 0, none⟩), .int .i64 3860] rfl (by (try simp only [List.map_toArray, List.map_cons, List.map_nil]); first | done | rfl | (simp only [List.length_drop, List.length_take]; rfl)) ?_; (with_reducible refine (csr_File_Get.calls gb115 t155 t156 t157 t158 t159 t160 t161 t162 t163 t164 t165 3860 t166 t167 t168 t169 t170 t171 t172 t173 t174 t175 t176 t177 t178 w _ ?side1 ?side2 A6.out).mono ?_); (case side1 => exact And.intro (by (with_reducible repeat (first | refine blk_drewN ?_ _ | refine blk_drew ?_ | refine blk_alloc ?_ _)); exact BK115.out) GW115.out); (case side2 => repeat (first | (with_reducible first | exact HB.out | apply below_alloc | apply pw_below_drewN | apply below_drew1 | refine below_set ?_ GE115.out) | exact HB.out)); rintro e w62 ⟨rfl, hi, hb, hk⟩; refine ⟨_, rfl, ?_⟩; have n0_ := Aside0.mk (hb); have n1_ := Aside0.mk ((And.left hi)); clear HB; clear BK115; have HB := n0_; have BK115 := n1_; clear n0_ n1_; (try clear hb); (try clear hb2); (try clear hk); (try clear hi)))
      go_ret
      exact ⟨by first | rfl | (simp [errW_none, errW_some] <;> rfl) | (simp [*, errW_none, errW_some] <;> rfl), by repeat (first | (with_reducible first | exact HB.out | apply below_alloc | apply pw_below_drewN | apply below_drew1 | refine below_set ?_ GE115.out) | exact HB.out)⟩
  · replace c7 := Bool.eq_false_iff.mpr c7
    subst c7
    have H1 : (some false) = some r := by rw [if_neg (show ¬ (false = true) by decide)] at H; exact H
    clear H
    have H := H1
    clear H1
    obtain rfl := Option.some.inj H
    go_enter Try.func20, Try.ntmps20
    go_wp2_with (first | ((with_reducible refine gate_callee (f := 21) rfl ?_); refine goesL_ (some 10) rfl rfl Try.func21 (by kernel_rfl) rfl #[.int .i64 3] rfl (by (try simp only [List.map_toArray, List.map_cons, List.map_nil]); first | done | rfl | (simp only [List.length_drop, List.length_take]; rfl)) ?_; (with_reducible refine (csr_New.calls 3 t104 t105 t106 t107 t108 t109 t110 t111 t112 t113 t114 _ A1.out).mono ?_); rintro e w63 ⟨rfl, hb⟩; refine ⟨_, rfl, ?_⟩; have n0_ := Aside0.mk (below_step (by repeat (first | (with_reducible first | exact HB.out | apply below_alloc | apply pw_below_drewN | apply below_drew1) | exact HB.out)) hb); clear HB; have HB := n0_; clear n0_; (try clear hb); (try clear hb2); (try clear hk); (try clear hi)) | ((with_reducible refine gate_dst (N := 1) rfl ?_); refine box_event ?hg (N := 1) ?hd (cs := #[.bool false, .int .u32 0, .int .u32 0, .int .u32 0, .int .u32 0, .int .u32 0, .int .u32 0, .int .u32 0, .int .u32 0, .int .u32 0, .int .u32 0]) (t := 38) ?hr ?_; (case hd => rfl); (case hg => rfl); (case hr => first | (go_simp; done) | (go_simp; rfl)); intro gb115 hg w64 hbox hb; have n0_ := Aside0.mk (below_step (by repeat (first | (with_reducible first | exact HB.out | apply below_alloc | apply pw_below_drewN | apply below_drew1) | exact HB.out)) hb); have n1_ := Aside0.mk (hbox); have n2_ := Aside0.mk ((by rw [hg]; exact (below_size (by repeat (first | (with_reducible first | exact HB.out | apply below_alloc | apply pw_below_drewN | apply below_drew1) | exact HB.out))) : w.heap.size ≤ gb115)); have n3_ := Aside0.mk ((by rw [hg]; exact (below_size (by repeat (first | (with_reducible first | exact HB.out | apply below_alloc | apply pw_below_drewN | apply below_drew1) | exact HB.out))) : w.heap.size ≤ gb115)); clear HB; have HB := n0_; have BK115 := n1_; have GW115 := n2_; have GE115 := n3_; clear n0_ n1_ n2_ n3_; clear hb hbox hg; have hcz65_0 : w64.cell? ⟨gb115, 0, none⟩ = some (.bool false) := (blk_cell BK115.out 0).trans rfl; have hcz65_1 : w64.cell? ⟨gb115, 1, none⟩ = some (.int .u32 0) := (blk_cell BK115.out 1).trans rfl; have hcz65_2 : w64.cell? ⟨gb115, 2, none⟩ = some (.int .u32 0) := (blk_cell BK115.out 2).trans rfl; have hcz65_3 : w64.cell? ⟨gb115, 3, none⟩ = some (.int .u32 0) := (blk_cell BK115.out 3).trans rfl; have hcz65_4 : w64.cell? ⟨gb115, 4, none⟩ = some (.int .u32 0) := (blk_cell BK115.out 4).trans rfl; have hcz65_5 : w64.cell? ⟨gb115, 5, none⟩ = some (.int .u32 0) := (blk_cell BK115.out 5).trans rfl; have hcz65_6 : w64.cell? ⟨gb115, 6, none⟩ = some (.int .u32 0) := (blk_cell BK115.out 6).trans rfl; have hcz65_7 : w64.cell? ⟨gb115, 7, none⟩ = some (.int .u32 0) := (blk_cell BK115.out 7).trans rfl; have hcz65_8 : w64.cell? ⟨gb115, 8, none⟩ = some (.int .u32 0) := (blk_cell BK115.out 8).trans rfl; have hcz65_9 : w64.cell? ⟨gb115, 9, none⟩ = some (.int .u32 0) := (blk_cell BK115.out 9).trans rfl; have hcz65_10 : w64.cell? ⟨gb115, 10, none⟩ = some (.int .u32 0) := (blk_cell BK115.out 10).trans rfl; have hfz65_0 := blk_frozen BK115.out 0; have hfz65_1 := blk_frozen BK115.out 1; have hfz65_2 := blk_frozen BK115.out 2; have hfz65_3 := blk_frozen BK115.out 3; have hfz65_4 := blk_frozen BK115.out 4; have hfz65_5 := blk_frozen BK115.out 5; have hfz65_6 := blk_frozen BK115.out 6; have hfz65_7 := blk_frozen BK115.out 7; have hfz65_8 := blk_frozen BK115.out 8; have hfz65_9 := blk_frozen BK115.out 9; have hfz65_10 := blk_frozen BK115.out 10) | ((with_reducible refine gate_callee (f := 22) rfl ?_); refine goesL_ (some 11) rfl rfl Try.func22 (by kernel_rfl) rfl #[.pointer (some ⟨gb115, 0, none⟩), .int .i64 768, .int .u32 6152] rfl (by (try simp only [List.map_toArray, List.map_cons, List.map_nil]); first | done | rfl | (simp only [List.length_drop, List.length_take]; rfl)) ?_; (with_reducible refine (csr_File_Set.calls gb115 t104 t105 t106 t107 t108 t109 t110 t111 t112 t113 t114 768 6152 false t117 t118 t119 t120 t121 t122 t123 t124 t125 t126 t127 w _ ?side1 ?side2 A2.out).mono ?_); (case side1 => exact And.intro (by (with_reducible repeat (first | refine blk_drewN ?_ _ | refine blk_drew ?_ | refine blk_alloc ?_ _)); refine blk_put (cs := #[.bool t104, .int .u32 t105, .int .u32 t106, .int .u32 t107, .int .u32 t108, .int .u32 t109, .int .u32 t110, .int .u32 t111, .int .u32 t112, .int .u32 t113, .int .u32 0]) ?_ 10 _ rfl; (with_reducible repeat (first | refine blk_drewN ?_ _ | refine blk_drew ?_ | refine blk_alloc ?_ _)); refine blk_put (cs := #[.bool t104, .int .u32 t105, .int .u32 t106, .int .u32 t107, .int .u32 t108, .int .u32 t109, .int .u32 t110, .int .u32 t111, .int .u32 t112, .int .u32 0, .int .u32 0]) ?_ 9 _ rfl; (with_reducible repeat (first | refine blk_drewN ?_ _ | refine blk_drew ?_ | refine blk_alloc ?_ _)); refine blk_put (cs := #[.bool t104, .int .u32 t105, .int .u32 t106, .int .u32 t107, .int .u32 t108, .int .u32 t109, .int .u32 t110, .int .u32 t111, .int .u32 0, .int .u32 0, .int .u32 0]) ?_ 8 _ rfl; (with_reducible repeat (first | refine blk_drewN ?_ _ | refine blk_drew ?_ | refine blk_alloc ?_ _)); refine blk_put (cs := #[.bool t104, .int .u32 t105, .int .u32 t106, .int .u32 t107, .int .u32 t108, .int .u32 t109, .int .u32 t110, .int .u32 0, .int .u32 0, .int .u32 0, .int .u32 0]) ?_ 7 _ rfl; (with_reducible repeat (first | refine blk_drewN ?_ _ | refine blk_drew ?_ | refine blk_alloc ?_ _)); refine blk_put (cs := #[.bool t104, .int .u32 t105, .int .u32 t106, .int .u32 t107, .int .u32 t108, .int .u32 t109, .int .u32 0, .int .u32 0, .int .u32 0, .int .u32 0, .int .u32 0]) ?_ 6 _ rfl; (with_reducible repeat (first | refine blk_drewN ?_ _ | refine blk_drew ?_ | refine blk_alloc ?_ _)); refine blk_put (cs := #[.bool t104, .int .u32 t105, .int .u32 t106, .int .u32 t107, .int .u32 t108, .int .u32 0, .int .u32 0, .int .u32 0, .int .u32 0, .int .u32 0, .int .u32 0]) ?_ 5 _ rfl; (with_reducible repeat (first | refine blk_drewN ?_ _ | refine blk_drew ?_ | refine blk_alloc ?_ _)); refine blk_put (cs := #[.bool t104, .int .u32 t105, .int .u32 t106, .int .u32 t107, .int .u32 0, .int .u32 0, .int .u32 0, .int .u32 0, .int .u32 0, .int .u32 0, .int .u32 0]) ?_ 4 _ rfl; (with_reducible repeat (first | refine blk_drewN ?_ _ | refine blk_drew ?_ | refine blk_alloc ?_ _)); refine blk_put (cs := #[.bool t104, .int .u32 t105, .int .u32 t106, .int .u32 0, .int .u32 0, .int .u32 0, .int .u32 0, .int .u32 0, .int .u32 0, .int .u32 0, .int .u32 0]) ?_ 3 _ rfl; (with_reducible repeat (first | refine blk_drewN ?_ _ | refine blk_drew ?_ | refine blk_alloc ?_ _)); refine blk_put (cs := #[.bool t104, .int .u32 t105, .int .u32 0, .int .u32 0, .int .u32 0, .int .u32 0, .int .u32 0, .int .u32 0, .int .u32 0, .int .u32 0, .int .u32 0]) ?_ 2 _ rfl; (with_reducible repeat (first | refine blk_drewN ?_ _ | refine blk_drew ?_ | refine blk_alloc ?_ _)); refine blk_put (cs := #[.bool t104, .int .u32 0, .int .u32 0, .int .u32 0, .int .u32 0, .int .u32 0, .int .u32 0, .int .u32 0, .int .u32 0, .int .u32 0, .int .u32 0]) ?_ 1 _ rfl; (with_reducible repeat (first | refine blk_drewN ?_ _ | refine blk_drew ?_ | refine blk_alloc ?_ _)); refine blk_put (cs := #[.bool false, .int .u32 0, .int .u32 0, .int .u32 0, .int .u32 0, .int .u32 0, .int .u32 0, .int .u32 0, .int .u32 0, .int .u32 0, .int .u32 0]) ?_ 0 _ rfl; (with_reducible repeat (first | refine blk_drewN ?_ _ | refine blk_drew ?_ | refine blk_alloc ?_ _)); exact BK115.out) GW115.out); (case side2 => repeat (first | (with_reducible first | exact HB.out | apply below_alloc | apply pw_below_drewN | apply below_drew1 | refine below_set ?_ GE115.out) | exact HB.out)); rintro e w66 ⟨rfl, hi, hb, hk⟩; refine ⟨_, rfl, ?_⟩; have n0_ := Aside0.mk (hb); have n1_ := Aside0.mk ((And.left hi)); clear HB; clear BK115; have HB := n0_; have BK115 := n1_; clear n0_ n1_; (try clear hb); (try clear hb2); (try clear hk); (try clear hi)) | ((with_reducible refine gate_callee (f := 23) rfl ?_); refine goesL_ (some 13) rfl rfl Try.func23 (by kernel_rfl) rfl #[.pointer (some ⟨gb115, 0, none⟩), .int .i64 768] rfl (by (try simp only [List.map_toArray, List.map_cons, List.map_nil]); first | done | rfl | (simp only [List.length_drop, List.length_take]; rfl)) ?_; (with_reducible refine (csr_File_Get.calls gb115 t117 t118 t119 t120 t121 t122 t123 t124 t125 t126 t127 768 t128 t129 t130 t131 t132 t133 t134 t135 t136 t137 t138 t139 t140 w _ ?side1 ?side2 A3.out).mono ?_); (case side1 => exact And.intro (by (with_reducible repeat (first | refine blk_drewN ?_ _ | refine blk_drew ?_ | refine blk_alloc ?_ _)); exact BK115.out) GW115.out); (case side2 => repeat (first | (with_reducible first | exact HB.out | apply below_alloc | apply pw_below_drewN | apply below_drew1 | refine below_set ?_ GE115.out) | exact HB.out)); rintro e w67 ⟨rfl, hi, hb, hk⟩; refine ⟨_, rfl, ?_⟩; have n0_ := Aside0.mk (hb); have n1_ := Aside0.mk ((And.left hi)); clear HB; clear BK115; have HB := n0_; have BK115 := n1_; clear n0_ n1_; (try clear hb); (try clear hb2); (try clear hk); (try clear hi)) | ((with_reducible refine gate_callee (f := 22) rfl ?_); refine goesL_ (some 16) rfl rfl Try.func22 (by kernel_rfl) rfl #[.pointer (some ⟨gb115, 0, none⟩), .int .i64 773, .int .u32 7] rfl (by (try simp only [List.map_toArray, List.map_cons, List.map_nil]); first | done | rfl | (simp only [List.length_drop, List.length_take]; rfl)) ?_; (with_reducible refine (csr_File_Set.calls gb115 t130 t131 t132 t133 t134 t135 t136 t137 t138 t139 t140 773 7 t141 t142 t143 t144 t145 t146 t147 t148 t149 t150 t151 t152 w _ ?side1 ?side2 A4.out).mono ?_); (case side1 => exact And.intro (by (with_reducible repeat (first | refine blk_drewN ?_ _ | refine blk_drew ?_ | refine blk_alloc ?_ _)); exact BK115.out) GW115.out); (case side2 => repeat (first | (with_reducible first | exact HB.out | apply below_alloc | apply pw_below_drewN | apply below_drew1 | refine below_set ?_ GE115.out) | exact HB.out)); rintro e w68 ⟨rfl, hi, hb, hk⟩; refine ⟨_, rfl, ?_⟩; have n0_ := Aside0.mk (hb); have n1_ := Aside0.mk ((And.left hi)); clear HB; clear BK115; have HB := n0_; have BK115 := n1_; clear n0_ n1_; (try clear hb); (try clear hb2); (try clear hk); (try clear hi)) | ((with_reducible refine gate_callee (f := 23) rfl ?_); refine goesL_ (some 18) rfl rfl Try.func23 (by kernel_rfl) rfl #[.pointer (some ⟨gb115, 0, none⟩), .int .i64 773] rfl (by (try simp only [List.map_toArray, List.map_cons, List.map_nil]); first | done | rfl | (simp only [List.length_drop, List.length_take]; rfl)) ?_; (with_reducible refine (csr_File_Get.calls gb115 t142 t143 t144 t145 t146 t147 t148 t149 t150 t151 t152 773 t153 t154 t155 t156 t157 t158 t159 t160 t161 t162 t163 t164 t165 w _ ?side1 ?side2 A5.out).mono ?_); (case side1 => exact And.intro (by (with_reducible repeat (first | refine blk_drewN ?_ _ | refine blk_drew ?_ | refine blk_alloc ?_ _)); exact BK115.out) GW115.out); (case side2 => repeat (first | (with_reducible first | exact HB.out | apply below_alloc | apply pw_below_drewN | apply below_drew1 | refine below_set ?_ GE115.out) | exact HB.out)); rintro e w69 ⟨rfl, hi, hb, hk⟩; refine ⟨_, rfl, ?_⟩; have n0_ := Aside0.mk (hb); have n1_ := Aside0.mk ((And.left hi)); clear HB; clear BK115; have HB := n0_; have BK115 := n1_; clear n0_ n1_; (try clear hb); (try clear hb2); (try clear hk); (try clear hi)) | ((with_reducible refine gate_callee (f := 23) rfl ?_); refine goesL_ (some 22) rfl rfl Try.func23 (by kernel_rfl) rfl #[.pointer (some ⟨gb115, 0, none⟩), .int .i64 3860] rfl (by (try simp only [List.map_toArray, List.map_cons, List.map_nil]); first | done | rfl | (simp only [List.length_drop, List.length_take]; rfl)) ?_; (with_reducible refine (csr_File_Get.calls gb115 t155 t156 t157 t158 t159 t160 t161 t162 t163 t164 t165 3860 t166 t167 t168 t169 t170 t171 t172 t173 t174 t175 t176 t177 t178 w _ ?side1 ?side2 A6.out).mono ?_); (case side1 => exact And.intro (by (with_reducible repeat (first | refine blk_drewN ?_ _ | refine blk_drew ?_ | refine blk_alloc ?_ _)); exact BK115.out) GW115.out); (case side2 => repeat (first | (with_reducible first | exact HB.out | apply below_alloc | apply pw_below_drewN | apply below_drew1 | refine below_set ?_ GE115.out) | exact HB.out)); rintro e w70 ⟨rfl, hi, hb, hk⟩; refine ⟨_, rfl, ?_⟩; have n0_ := Aside0.mk (hb); have n1_ := Aside0.mk ((And.left hi)); clear HB; clear BK115; have HB := n0_; have BK115 := n1_; clear n0_ n1_; (try clear hb); (try clear hb2); (try clear hk); (try clear hi)))
    go_ret
    exact ⟨by first | rfl | (simp [errW_none, errW_some] <;> rfl) | (simp [*, errW_none, errW_some] <;> rfl), by repeat (first | (with_reducible first | exact HB.out | apply below_alloc | apply pw_below_drewN | apply below_drew1 | refine below_set ?_ GE115.out) | exact HB.out)⟩

/-! ### csr_File_Return: function 26 -/
def csr_File_Return.f (s0_0 : Bool) (s0_1 : Int) (s0_2 : Int) (s0_3 : Int) (s0_4 : Int) (s0_5 : Int) (s0_6 : Int) (s0_7 : Int) (s0_8 : Int) (s0_9 : Int) (s0_10 : Int) : Option (Int × Bool × Int × Int × Int × Int × Int × Int × Int × Int × Int × Int) := (word_Bits.f s0_2 11 2).bind fun t191 => (some (s0_6, (t191 != 3), s0_1, Go.bits .or .u32 ((Go.bits .and .u32 s0_2 128) / 16) 128, s0_3, s0_4, s0_5, s0_6, s0_7, s0_8, s0_9, s0_10))
set_option maxHeartbeats 8000000 in
set_option maxRecDepth 100000 in
theorem csr_File_Return.calls (g : Nat) (s0_0 : Bool) (s0_1 : Int) (s0_2 : Int) (s0_3 : Int) (s0_4 : Int) (s0_5 : Int) (s0_6 : Int) (s0_7 : Int) (s0_8 : Int) (s0_9 : Int) (s0_10 : Int) (r1 : Int) (r2 : Bool) (r3 : Int) (r4 : Int) (r5 : Int) (r6 : Int) (r7 : Int) (r8 : Int) (r9 : Int) (r10 : Int) (r11 : Int) (r12 : Int) (w0 w : World) (hI : IsS38 w0 w g s0_0 s0_1 s0_2 s0_3 s0_4 s0_5 s0_6 s0_7 s0_8 s0_9 s0_10) (hB : Below w0.heap.size w0 w) (h : csr_File_Return.f s0_0 s0_1 s0_2 s0_3 s0_4 s0_5 s0_6 s0_7 s0_8 s0_9 s0_10 = some (r1, r2, r3, r4, r5, r6, r7, r8, r9, r10, r11, r12)) :
    Calls Try.prog 26 #[.pointer (some ⟨g, 0, none⟩)] w fun e w' => e = .returned (.int .u32 r1) ∧ IsS38 w0 w' g r2 r3 r4 r5 r6 r7 r8 r9 r10 r11 r12 ∧ Below w0.heap.size w0 w' ∧ KeepBut w w' g none := by
  have HI0 := Aside0.mk hI
  have HK := Aside0.mk (KeepBut.refl w g none)
  have HL := Aside0.mk hB.size
  clear hI
  have HW0 := Aside0.mk hB.size
  have HB := Aside0.mk hB
  clear hB
  have H : ((word_Bits.f s0_2 11 2).bind fun t191 => (some (s0_6, (t191 != 3), s0_1, Go.bits .or .u32 ((Go.bits .and .u32 s0_2 128) / 16) 128, s0_3, s0_4, s0_5, s0_6, s0_7, s0_8, s0_9, s0_10))) = some (r1, r2, r3, r4, r5, r6, r7, r8, r9, r10, r11, r12) := h
  clear h
  replace H := Option.bind_eq_some_iff.mp H
  obtain ⟨t191, A20, H⟩ := H
  replace H : (some (s0_6, (t191 != 3), s0_1, Go.bits .or .u32 ((Go.bits .and .u32 s0_2 128) / 16) 128, s0_3, s0_4, s0_5, s0_6, s0_7, s0_8, s0_9, s0_10)) = some (r1, r2, r3, r4, r5, r6, r7, r8, r9, r10, r11, r12) := H
  have A2 := Aside0.mk A20
  clear A20
  simp only [Option.some.injEq, Prod.mk.injEq] at H
  obtain ⟨rfl, rfl, rfl, rfl, rfl, rfl, rfl, rfl, rfl, rfl, rfl, rfl⟩ := H
  obtain ⟨HGz3, hgz3⟩ := HI0.out
  have hcz3_0 := cellS38_0 HGz3
  have hcz3_1 := cellS38_1 HGz3
  have hcz3_2 := cellS38_2 HGz3
  have hcz3_3 := cellS38_3 HGz3
  have hcz3_4 := cellS38_4 HGz3
  have hcz3_5 := cellS38_5 HGz3
  have hcz3_6 := cellS38_6 HGz3
  have hcz3_7 := cellS38_7 HGz3
  have hcz3_8 := cellS38_8 HGz3
  have hcz3_9 := cellS38_9 HGz3
  have hcz3_10 := cellS38_10 HGz3
  have hfz3_0 := blk_frozen HGz3 0
  have hfz3_1 := blk_frozen HGz3 1
  have hfz3_2 := blk_frozen HGz3 2
  have hfz3_3 := blk_frozen HGz3 3
  have hfz3_4 := blk_frozen HGz3 4
  have hfz3_5 := blk_frozen HGz3 5
  have hfz3_6 := blk_frozen HGz3 6
  have hfz3_7 := blk_frozen HGz3 7
  have hfz3_8 := blk_frozen HGz3 8
  have hfz3_9 := blk_frozen HGz3 9
  have hfz3_10 := blk_frozen HGz3 10
  clear HGz3 hgz3
  go_enter Try.func26, Try.ntmps26
  go_wp2_with (first | ((with_reducible refine gate_callee (f := 42) rfl ?_); refine goesL_ (some 8) rfl rfl Try.func42 (by kernel_rfl) rfl #[.int .u32 s0_2, .int .i64 11, .int .i64 2] rfl (by (try simp only [List.map_toArray, List.map_cons, List.map_nil]); first | done | rfl | (simp only [List.length_drop, List.length_take]; rfl)) ?_; (with_reducible refine (word_Bits.calls s0_2 11 2 t191 _ A2.out).mono ?_); rintro e w4 ⟨rfl, hb⟩; refine ⟨_, rfl, ?_⟩; have n0_ := Aside0.mk (IsS38.below (by repeat (first | (with_reducible first | exact HI0.out | apply IsS38.alloc | apply IsS38.drewN | apply IsS38.drew | apply IsS38.set_0 | apply IsS38.set_1 | apply IsS38.set_2 | apply IsS38.set_3 | apply IsS38.set_4 | apply IsS38.set_5 | apply IsS38.set_6 | apply IsS38.set_7 | apply IsS38.set_8 | apply IsS38.set_9 | apply IsS38.set_10) | exact HI0.out)) hb); have n1_ := Aside0.mk (KeepBut.trans (by repeat (first | (with_reducible first | exact HK.out | apply KeepBut.set_ | apply keep_drewN | apply keep_drew | apply keep_alloc) | exact HK.out)) (KeepBut.of_below hb g none) (.inl rfl)); have n2_ := Aside0.mk (below_step (by repeat (first | (with_reducible first | exact HB.out | apply below_alloc | apply pw_below_drewN | apply below_drew1 | refine below_set ?_ (IsS38.ge HI0.out)) | exact HB.out)) hb); clear HI0; clear HK; clear HB; have HI0 := n0_; have HK := n1_; have HB := n2_; clear n0_ n1_ n2_; (try clear hb); (try clear hb2); (try clear hk); (try clear hi); obtain ⟨HGz5, hgz5⟩ := HI0.out; have hcz5_0 := cellS38_0 HGz5; have hcz5_1 := cellS38_1 HGz5; have hcz5_2 := cellS38_2 HGz5; have hcz5_3 := cellS38_3 HGz5; have hcz5_4 := cellS38_4 HGz5; have hcz5_5 := cellS38_5 HGz5; have hcz5_6 := cellS38_6 HGz5; have hcz5_7 := cellS38_7 HGz5; have hcz5_8 := cellS38_8 HGz5; have hcz5_9 := cellS38_9 HGz5; have hcz5_10 := cellS38_10 HGz5; have hfz5_0 := blk_frozen HGz5 0; have hfz5_1 := blk_frozen HGz5 1; have hfz5_2 := blk_frozen HGz5 2; have hfz5_3 := blk_frozen HGz5 3; have hfz5_4 := blk_frozen HGz5 4; have hfz5_5 := blk_frozen HGz5 5; have hfz5_6 := blk_frozen HGz5 6; have hfz5_7 := blk_frozen HGz5 7; have hfz5_8 := blk_frozen HGz5 8; have hfz5_9 := blk_frozen HGz5 9; have hfz5_10 := blk_frozen HGz5 10; clear HGz5 hgz5))
  go_ret
  exact ⟨by first | rfl | (simp [errW_none, errW_some] <;> rfl) | (simp [*, errW_none, errW_some] <;> rfl), by repeat (first | (with_reducible first | exact HI0.out | apply IsS38.alloc | apply IsS38.drewN | apply IsS38.drew | apply IsS38.set_0 | apply IsS38.set_1 | apply IsS38.set_2 | apply IsS38.set_3 | apply IsS38.set_4 | apply IsS38.set_5 | apply IsS38.set_6 | apply IsS38.set_7 | apply IsS38.set_8 | apply IsS38.set_9 | apply IsS38.set_10) | exact HI0.out), by repeat (first | (with_reducible first | exact HB.out | apply below_alloc | apply pw_below_drewN | apply below_drew1 | refine below_set ?_ (IsS38.ge HI0.out)) | exact HB.out), by repeat (first | (with_reducible first | exact HK.out | apply KeepBut.set_ | apply keep_drewN | apply keep_drew | apply keep_alloc) | exact HK.out)⟩

/-! ### csr_File_Trap: function 28 -/
def csr_File_Trap.f (s0_0 : Bool) (s0_1 : Int) (s0_2 : Int) (s0_3 : Int) (s0_4 : Int) (s0_5 : Int) (s0_6 : Int) (s0_7 : Int) (s0_8 : Int) (s0_9 : Int) (s0_10 : Int) (a1 : Int) (a2 : Int) (a3 : Int) : Option (Int × Bool × Int × Int × Int × Int × Int × Int × Int × Int × Int × Int) := (csr_File_Mode.f s0_0 s0_1 s0_2 s0_3 s0_4 s0_5 s0_6 s0_7 s0_8 s0_9 s0_10).bind fun bt192 => (some (bt192.2.2.2.2.2.1, false, bt192.2.2.1, Go.bits .or .u32 (((Go.bits .and .u32 bt192.2.2.2.1 8) * 16) % 4294967296) ((((bt192.1) % 4294967296) * 2048) % 4294967296), bt192.2.2.2.2.1, bt192.2.2.2.2.2.1, bt192.2.2.2.2.2.2.1, Go.bits .and .u32 a3 4294967292, a1, a2, bt192.2.2.2.2.2.2.2.2.2.2.1, bt192.2.2.2.2.2.2.2.2.2.2.2))
set_option maxHeartbeats 8000000 in
set_option maxRecDepth 100000 in
theorem csr_File_Trap.calls (g : Nat) (s0_0 : Bool) (s0_1 : Int) (s0_2 : Int) (s0_3 : Int) (s0_4 : Int) (s0_5 : Int) (s0_6 : Int) (s0_7 : Int) (s0_8 : Int) (s0_9 : Int) (s0_10 : Int) (a1 : Int) (a2 : Int) (a3 : Int) (r1 : Int) (r2 : Bool) (r3 : Int) (r4 : Int) (r5 : Int) (r6 : Int) (r7 : Int) (r8 : Int) (r9 : Int) (r10 : Int) (r11 : Int) (r12 : Int) (w0 w : World) (hI : IsS38 w0 w g s0_0 s0_1 s0_2 s0_3 s0_4 s0_5 s0_6 s0_7 s0_8 s0_9 s0_10) (hB : Below w0.heap.size w0 w) (h : csr_File_Trap.f s0_0 s0_1 s0_2 s0_3 s0_4 s0_5 s0_6 s0_7 s0_8 s0_9 s0_10 a1 a2 a3 = some (r1, r2, r3, r4, r5, r6, r7, r8, r9, r10, r11, r12)) :
    Calls Try.prog 28 #[.pointer (some ⟨g, 0, none⟩), .int .u32 a1, .int .u32 a2, .int .u32 a3] w fun e w' => e = .returned (.int .u32 r1) ∧ IsS38 w0 w' g r2 r3 r4 r5 r6 r7 r8 r9 r10 r11 r12 ∧ Below w0.heap.size w0 w' ∧ KeepBut w w' g none := by
  have HI0 := Aside0.mk hI
  have HK := Aside0.mk (KeepBut.refl w g none)
  have HL := Aside0.mk hB.size
  clear hI
  have HW0 := Aside0.mk hB.size
  have HB := Aside0.mk hB
  clear hB
  have H : ((csr_File_Mode.f s0_0 s0_1 s0_2 s0_3 s0_4 s0_5 s0_6 s0_7 s0_8 s0_9 s0_10).bind fun bt192 => (some (bt192.2.2.2.2.2.1, false, bt192.2.2.1, Go.bits .or .u32 (((Go.bits .and .u32 bt192.2.2.2.1 8) * 16) % 4294967296) ((((bt192.1) % 4294967296) * 2048) % 4294967296), bt192.2.2.2.2.1, bt192.2.2.2.2.2.1, bt192.2.2.2.2.2.2.1, Go.bits .and .u32 a3 4294967292, a1, a2, bt192.2.2.2.2.2.2.2.2.2.2.1, bt192.2.2.2.2.2.2.2.2.2.2.2))) = some (r1, r2, r3, r4, r5, r6, r7, r8, r9, r10, r11, r12) := h
  clear h
  replace H := Option.bind_eq_some_iff.mp H
  obtain ⟨⟨t192, t193, t194, t195, t196, t197, t198, t199, t200, t201, t202, t203⟩, A50, H⟩ := H
  replace H : (some (t197, false, t194, Go.bits .or .u32 (((Go.bits .and .u32 t195 8) * 16) % 4294967296) ((((t192) % 4294967296) * 2048) % 4294967296), t196, t197, t198, Go.bits .and .u32 a3 4294967292, a1, a2, t202, t203)) = some (r1, r2, r3, r4, r5, r6, r7, r8, r9, r10, r11, r12) := H
  have A5 := Aside0.mk A50
  clear A50
  simp only [Option.some.injEq, Prod.mk.injEq] at H
  obtain ⟨rfl, rfl, rfl, rfl, rfl, rfl, rfl, rfl, rfl, rfl, rfl, rfl⟩ := H
  go_enter Try.func28, Try.ntmps28
  go_wp2_with (first | ((with_reducible refine gate_callee (f := 27) rfl ?_); refine goesL_ (some 11) rfl rfl Try.func27 (by kernel_rfl) rfl #[.pointer (some ⟨g, 0, none⟩)] rfl (by (try simp only [List.map_toArray, List.map_cons, List.map_nil]); first | done | rfl | (simp only [List.length_drop, List.length_take]; rfl)) ?_; (with_reducible refine (csr_File_Mode.calls g s0_0 s0_1 s0_2 s0_3 s0_4 s0_5 s0_6 s0_7 s0_8 s0_9 s0_10 t192 t193 t194 t195 t196 t197 t198 t199 t200 t201 t202 t203 w0 _ ?side1 ?side2 A5.out).mono ?_); (case side1 => repeat (first | (with_reducible first | exact HI0.out | apply IsS38.alloc | apply IsS38.drewN | apply IsS38.drew | apply IsS38.set_0 | apply IsS38.set_1 | apply IsS38.set_2 | apply IsS38.set_3 | apply IsS38.set_4 | apply IsS38.set_5 | apply IsS38.set_6 | apply IsS38.set_7 | apply IsS38.set_8 | apply IsS38.set_9 | apply IsS38.set_10) | exact HI0.out)); (case side2 => repeat (first | (with_reducible first | exact HB.out | apply below_alloc | apply pw_below_drewN | apply below_drew1 | refine below_set ?_ (IsS38.ge HI0.out)) | exact HB.out)); rintro e w6 ⟨rfl, hi, hb, hk⟩; refine ⟨_, rfl, ?_⟩; have n0_ := Aside0.mk (KeepBut.trans (by repeat (first | (with_reducible first | exact HK.out | apply KeepBut.set_ | apply keep_drewN | apply keep_drew | apply keep_alloc) | exact HK.out)) hk (.inl rfl)); have n1_ := Aside0.mk (hb); have n2_ := Aside0.mk (hi); clear HK; clear HB; clear HI0; have HK := n0_; have HB := n1_; have HI0 := n2_; clear n0_ n1_ n2_; (try clear hb); (try clear hb2); (try clear hk); (try clear hi); obtain ⟨HGz7, hgz7⟩ := HI0.out; have hcz7_0 := cellS38_0 HGz7; have hcz7_1 := cellS38_1 HGz7; have hcz7_2 := cellS38_2 HGz7; have hcz7_3 := cellS38_3 HGz7; have hcz7_4 := cellS38_4 HGz7; have hcz7_5 := cellS38_5 HGz7; have hcz7_6 := cellS38_6 HGz7; have hcz7_7 := cellS38_7 HGz7; have hcz7_8 := cellS38_8 HGz7; have hcz7_9 := cellS38_9 HGz7; have hcz7_10 := cellS38_10 HGz7; have hfz7_0 := blk_frozen HGz7 0; have hfz7_1 := blk_frozen HGz7 1; have hfz7_2 := blk_frozen HGz7 2; have hfz7_3 := blk_frozen HGz7 3; have hfz7_4 := blk_frozen HGz7 4; have hfz7_5 := blk_frozen HGz7 5; have hfz7_6 := blk_frozen HGz7 6; have hfz7_7 := blk_frozen HGz7 7; have hfz7_8 := blk_frozen HGz7 8; have hfz7_9 := blk_frozen HGz7 9; have hfz7_10 := blk_frozen HGz7 10; clear HGz7 hgz7))
  go_ret
  exact ⟨by first | rfl | (simp [errW_none, errW_some] <;> rfl) | (simp [*, errW_none, errW_some] <;> rfl), by repeat (first | (with_reducible first | exact HI0.out | apply IsS38.alloc | apply IsS38.drewN | apply IsS38.drew | apply IsS38.set_0 | apply IsS38.set_1 | apply IsS38.set_2 | apply IsS38.set_3 | apply IsS38.set_4 | apply IsS38.set_5 | apply IsS38.set_6 | apply IsS38.set_7 | apply IsS38.set_8 | apply IsS38.set_9 | apply IsS38.set_10) | exact HI0.out), by repeat (first | (with_reducible first | exact HB.out | apply below_alloc | apply pw_below_drewN | apply below_drew1 | refine below_set ?_ (IsS38.ge HI0.out)) | exact HB.out), by repeat (first | (with_reducible first | exact HK.out | apply KeepBut.set_ | apply keep_drewN | apply keep_drew | apply keep_alloc) | exact HK.out)⟩

/-! ### csr_File_Bell: function 29 -/
def csr_File_Bell.f (s0_0 : Bool) (s0_1 : Int) (s0_2 : Int) (s0_3 : Int) (s0_4 : Int) (s0_5 : Int) (s0_6 : Int) (s0_7 : Int) (s0_8 : Int) (s0_9 : Int) (s0_10 : Int) (a1 : Bool) : Option (Bool × Int × Int × Int × Int × Int × Int × Int × Int × Int × Int) := if a1 = true then (some (s0_0, s0_1, s0_2, s0_3, s0_4, s0_5, s0_6, s0_7, s0_8, 8, s0_10)) else (some (s0_0, s0_1, s0_2, s0_3, s0_4, s0_5, s0_6, s0_7, s0_8, 0, s0_10))
set_option maxHeartbeats 8000000 in
set_option maxRecDepth 100000 in
theorem csr_File_Bell.calls (g : Nat) (s0_0 : Bool) (s0_1 : Int) (s0_2 : Int) (s0_3 : Int) (s0_4 : Int) (s0_5 : Int) (s0_6 : Int) (s0_7 : Int) (s0_8 : Int) (s0_9 : Int) (s0_10 : Int) (a1 : Bool) (r1 : Bool) (r2 : Int) (r3 : Int) (r4 : Int) (r5 : Int) (r6 : Int) (r7 : Int) (r8 : Int) (r9 : Int) (r10 : Int) (r11 : Int) (w0 w : World) (hI : IsS38 w0 w g s0_0 s0_1 s0_2 s0_3 s0_4 s0_5 s0_6 s0_7 s0_8 s0_9 s0_10) (hB : Below w0.heap.size w0 w) (h : csr_File_Bell.f s0_0 s0_1 s0_2 s0_3 s0_4 s0_5 s0_6 s0_7 s0_8 s0_9 s0_10 a1 = some (r1, r2, r3, r4, r5, r6, r7, r8, r9, r10, r11)) :
    Calls Try.prog 29 #[.pointer (some ⟨g, 0, none⟩), .bool a1] w fun e w' => e = .returned (.tuple #[]) ∧ IsS38 w0 w' g r1 r2 r3 r4 r5 r6 r7 r8 r9 r10 r11 ∧ Below w0.heap.size w0 w' ∧ KeepBut w w' g none := by
  have HI0 := Aside0.mk hI
  have HK := Aside0.mk (KeepBut.refl w g none)
  have HL := Aside0.mk hB.size
  clear hI
  have HW0 := Aside0.mk hB.size
  have HB := Aside0.mk hB
  clear hB
  have H : (if a1 = true then (some (s0_0, s0_1, s0_2, s0_3, s0_4, s0_5, s0_6, s0_7, s0_8, 8, s0_10)) else (some (s0_0, s0_1, s0_2, s0_3, s0_4, s0_5, s0_6, s0_7, s0_8, 0, s0_10))) = some (r1, r2, r3, r4, r5, r6, r7, r8, r9, r10, r11) := h
  clear h
  by_cases c3 : a1 = true
  · subst c3
    have H1 : (some (s0_0, s0_1, s0_2, s0_3, s0_4, s0_5, s0_6, s0_7, s0_8, 8, s0_10)) = some (r1, r2, r3, r4, r5, r6, r7, r8, r9, r10, r11) := by rw [if_pos rfl] at H; exact H
    clear H
    have H := H1
    clear H1
    simp only [Option.some.injEq, Prod.mk.injEq] at H
    obtain ⟨rfl, rfl, rfl, rfl, rfl, rfl, rfl, rfl, rfl, rfl, rfl⟩ := H
    obtain ⟨HGz4, hgz4⟩ := HI0.out
    have hcz4_0 := cellS38_0 HGz4
    have hcz4_1 := cellS38_1 HGz4
    have hcz4_2 := cellS38_2 HGz4
    have hcz4_3 := cellS38_3 HGz4
    have hcz4_4 := cellS38_4 HGz4
    have hcz4_5 := cellS38_5 HGz4
    have hcz4_6 := cellS38_6 HGz4
    have hcz4_7 := cellS38_7 HGz4
    have hcz4_8 := cellS38_8 HGz4
    have hcz4_9 := cellS38_9 HGz4
    have hcz4_10 := cellS38_10 HGz4
    have hfz4_0 := blk_frozen HGz4 0
    have hfz4_1 := blk_frozen HGz4 1
    have hfz4_2 := blk_frozen HGz4 2
    have hfz4_3 := blk_frozen HGz4 3
    have hfz4_4 := blk_frozen HGz4 4
    have hfz4_5 := blk_frozen HGz4 5
    have hfz4_6 := blk_frozen HGz4 6
    have hfz4_7 := blk_frozen HGz4 7
    have hfz4_8 := blk_frozen HGz4 8
    have hfz4_9 := blk_frozen HGz4 9
    have hfz4_10 := blk_frozen HGz4 10
    clear HGz4 hgz4
    go_enter Try.func29, Try.ntmps29
    go_wp2
    first | go_end0 | ((try simp only [Exit.inBlock, Exit.then]); refine bodyPost_ret (results_none rfl _ _ _) rfl ?_)
    exact ⟨by first | rfl | (simp [errW_none, errW_some] <;> rfl) | (simp [*, errW_none, errW_some] <;> rfl), by repeat (first | (with_reducible first | exact HI0.out | apply IsS38.alloc | apply IsS38.drewN | apply IsS38.drew | apply IsS38.set_0 | apply IsS38.set_1 | apply IsS38.set_2 | apply IsS38.set_3 | apply IsS38.set_4 | apply IsS38.set_5 | apply IsS38.set_6 | apply IsS38.set_7 | apply IsS38.set_8 | apply IsS38.set_9 | apply IsS38.set_10) | exact HI0.out), by repeat (first | (with_reducible first | exact HB.out | apply below_alloc | apply pw_below_drewN | apply below_drew1 | refine below_set ?_ (IsS38.ge HI0.out)) | exact HB.out), by repeat (first | (with_reducible first | exact HK.out | apply KeepBut.set_ | apply keep_drewN | apply keep_drew | apply keep_alloc) | exact HK.out)⟩
  · replace c3 := Bool.eq_false_iff.mpr c3
    subst c3
    have H1 : (some (s0_0, s0_1, s0_2, s0_3, s0_4, s0_5, s0_6, s0_7, s0_8, 0, s0_10)) = some (r1, r2, r3, r4, r5, r6, r7, r8, r9, r10, r11) := by rw [if_neg (show ¬ (false = true) by decide)] at H; exact H
    clear H
    have H := H1
    clear H1
    simp only [Option.some.injEq, Prod.mk.injEq] at H
    obtain ⟨rfl, rfl, rfl, rfl, rfl, rfl, rfl, rfl, rfl, rfl, rfl⟩ := H
    obtain ⟨HGz5, hgz5⟩ := HI0.out
    have hcz5_0 := cellS38_0 HGz5
    have hcz5_1 := cellS38_1 HGz5
    have hcz5_2 := cellS38_2 HGz5
    have hcz5_3 := cellS38_3 HGz5
    have hcz5_4 := cellS38_4 HGz5
    have hcz5_5 := cellS38_5 HGz5
    have hcz5_6 := cellS38_6 HGz5
    have hcz5_7 := cellS38_7 HGz5
    have hcz5_8 := cellS38_8 HGz5
    have hcz5_9 := cellS38_9 HGz5
    have hcz5_10 := cellS38_10 HGz5
    have hfz5_0 := blk_frozen HGz5 0
    have hfz5_1 := blk_frozen HGz5 1
    have hfz5_2 := blk_frozen HGz5 2
    have hfz5_3 := blk_frozen HGz5 3
    have hfz5_4 := blk_frozen HGz5 4
    have hfz5_5 := blk_frozen HGz5 5
    have hfz5_6 := blk_frozen HGz5 6
    have hfz5_7 := blk_frozen HGz5 7
    have hfz5_8 := blk_frozen HGz5 8
    have hfz5_9 := blk_frozen HGz5 9
    have hfz5_10 := blk_frozen HGz5 10
    clear HGz5 hgz5
    go_enter Try.func29, Try.ntmps29
    go_wp2
    first | go_end0 | ((try simp only [Exit.inBlock, Exit.then]); refine bodyPost_ret (results_none rfl _ _ _) rfl ?_)
    exact ⟨by first | rfl | (simp [errW_none, errW_some] <;> rfl) | (simp [*, errW_none, errW_some] <;> rfl), by repeat (first | (with_reducible first | exact HI0.out | apply IsS38.alloc | apply IsS38.drewN | apply IsS38.drew | apply IsS38.set_0 | apply IsS38.set_1 | apply IsS38.set_2 | apply IsS38.set_3 | apply IsS38.set_4 | apply IsS38.set_5 | apply IsS38.set_6 | apply IsS38.set_7 | apply IsS38.set_8 | apply IsS38.set_9 | apply IsS38.set_10) | exact HI0.out), by repeat (first | (with_reducible first | exact HB.out | apply below_alloc | apply pw_below_drewN | apply below_drew1 | refine below_set ?_ (IsS38.ge HI0.out)) | exact HB.out), by repeat (first | (with_reducible first | exact HK.out | apply KeepBut.set_ | apply keep_drewN | apply keep_drew | apply keep_alloc) | exact HK.out)⟩

end Go.Proofs.Ytcaohimipkoapaa.QCsrReturns
