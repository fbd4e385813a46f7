-- Laid by a program of this session (wip/tpl/mine.sh), out of the program's form in Lean: Lean checks it.
import Derived.Test.YtcaohimipkoapaaQCsrReturnsx0
import Derived.Test.YtcaohimipkoapaaQCsrReturnsx1
import Derived.Test.YtcaohimipkoapaaQCsrReturnsx2
namespace Go.Proofs.Ytcaohimipkoapaa.QCsrReturns
open Go.RowKit Go.Proofs.YtcaohimipkoapaaW.PrintWords Go.Proofs.YtcaohimipkoapaaW.PrintLast Go.Proofs.YtcaohimipkoapaaW.PrintMore
attribute [local go_sem] max2_int min2_int max_two min_two max_three min_three max_four min_four   -- for this text's walks alone
set_option linter.unusedVariables false
set_option linter.unusedSimpArgs false

/-! ### csr_File_Pending: function 30 -/
def csr_File_Pending.f (s0_0 : Bool) (s0_1 : Int) (s0_2 : Int) (s0_3 : Int) (s0_4 : Int) (s0_5 : Int) (s0_6 : Int) (s0_7 : Int) (s0_8 : Int) (s0_9 : Int) (s0_10 : Int) : Option (Int × Bool × Bool × Int × Int × Int × Int × Int × Int × Int × Int × Int × Int) := if (Go.bits .and .u32 (Go.bits .and .u32 s0_9 s0_3) 8) = 0 then (some (0, false, s0_0, s0_1, s0_2, s0_3, s0_4, s0_5, s0_6, s0_7, s0_8, s0_9, s0_10)) else (if s0_0 = true then (some (2147483651, true, s0_0, s0_1, s0_2, s0_3, s0_4, s0_5, s0_6, s0_7, s0_8, s0_9, s0_10)) else (if (Go.bits .and .u32 s0_2 8) = 0 then (some (0, false, s0_0, s0_1, s0_2, s0_3, s0_4, s0_5, s0_6, s0_7, s0_8, s0_9, s0_10)) else (some (2147483651, true, s0_0, s0_1, s0_2, s0_3, s0_4, s0_5, s0_6, s0_7, s0_8, s0_9, s0_10))))
set_option maxHeartbeats 8000000 in
set_option maxRecDepth 100000 in
theorem csr_File_Pending.calls (g : Nat) (s0_0 : Bool) (s0_1 : Int) (s0_2 : Int) (s0_3 : Int) (s0_4 : Int) (s0_5 : Int) (s0_6 : Int) (s0_7 : Int) (s0_8 : Int) (s0_9 : Int) (s0_10 : Int) (r1 : Int) (r2 : Bool) (r3 : Bool) (r4 : Int) (r5 : Int) (r6 : Int) (r7 : Int) (r8 : Int) (r9 : Int) (r10 : Int) (r11 : Int) (r12 : Int) (r13 : Int) (w0 w : World) (hI : IsS38 w0 w g s0_0 s0_1 s0_2 s0_3 s0_4 s0_5 s0_6 s0_7 s0_8 s0_9 s0_10) (hB : Below w0.heap.size w0 w) (h : csr_File_Pending.f s0_0 s0_1 s0_2 s0_3 s0_4 s0_5 s0_6 s0_7 s0_8 s0_9 s0_10 = some (r1, r2, r3, r4, r5, r6, r7, r8, r9, r10, r11, r12, r13)) :
    Calls Try.prog 30 #[.pointer (some ⟨g, 0, none⟩)] w fun e w' => e = .returned (.tuple #[.int .u32 r1, .bool r2]) ∧ IsS38 w0 w' g r3 r4 r5 r6 r7 r8 r9 r10 r11 r12 r13 ∧ Below w0.heap.size w0 w' ∧ KeepBut w w' g none := by
  have HI0 := Aside0.mk hI
  have HK := Aside0.mk (KeepBut.refl w g none)
  have HL := Aside0.mk hB.size
  clear hI
  have HW0 := Aside0.mk hB.size
  have HB := Aside0.mk hB
  clear hB
  have H : (if (Go.bits .and .u32 (Go.bits .and .u32 s0_9 s0_3) 8) = 0 then (some (0, false, s0_0, s0_1, s0_2, s0_3, s0_4, s0_5, s0_6, s0_7, s0_8, s0_9, s0_10)) else (if s0_0 = true then (some (2147483651, true, s0_0, s0_1, s0_2, s0_3, s0_4, s0_5, s0_6, s0_7, s0_8, s0_9, s0_10)) else (if (Go.bits .and .u32 s0_2 8) = 0 then (some (0, false, s0_0, s0_1, s0_2, s0_3, s0_4, s0_5, s0_6, s0_7, s0_8, s0_9, s0_10)) else (some (2147483651, true, s0_0, s0_1, s0_2, s0_3, s0_4, s0_5, s0_6, s0_7, s0_8, s0_9, s0_10))))) = some (r1, r2, r3, r4, r5, r6, r7, r8, r9, r10, r11, r12, r13) := h
  clear h
  by_cases c2 : (Go.bits .and .u32 (Go.bits .and .u32 s0_9 s0_3) 8) = 0
  · rw [if_pos c2] at H
    have c2b0 : ((Go.bits .and .u32 (Go.bits .and .u32 s0_9 s0_3) 8) == 0) = true := beq_iff_eq.mpr c2
    have c2b1 : ((Go.bits .and .u32 (Go.bits .and .u32 s0_9 s0_3) 8) != 0) = false := bne_eq_false_iff_eq.mpr c2
    clear c2
    simp only [Option.some.injEq, Prod.mk.injEq] at H
    obtain ⟨rfl, rfl, rfl, rfl, rfl, rfl, rfl, rfl, rfl, rfl, rfl, rfl, rfl⟩ := H
    obtain ⟨HGz3, hgz3⟩ := HI0.out
    have hcz3_0 := cellS38_0 HGz3
    have hcz3_1 := cellS38_1 HGz3
    have hcz3_2 := cellS38_2 HGz3
    have hcz3_3 := cellS38_3 HGz3
    have hcz3_4 := cellS38_4 HGz3
    have hcz3_5 := cellS38_5 HGz3
    have hcz3_6 := cellS38_6 HGz3
    have hcz3_7 := cellS38_7 HGz3
    have hcz3_8 := cellS38_8 HGz3
    have hcz3_9 := cellS38_9 HGz3
    have hcz3_10 := cellS38_10 HGz3
    have hfz3_0 := blk_frozen HGz3 0
    have hfz3_1 := blk_frozen HGz3 1
    have hfz3_2 := blk_frozen HGz3 2
    have hfz3_3 := blk_frozen HGz3 3
    have hfz3_4 := blk_frozen HGz3 4
    have hfz3_5 := blk_frozen HGz3 5
    have hfz3_6 := blk_frozen HGz3 6
    have hfz3_7 := blk_frozen HGz3 7
    have hfz3_8 := blk_frozen HGz3 8
    have hfz3_9 := blk_frozen HGz3 9
    have hfz3_10 := blk_frozen HGz3 10
    clear HGz3 hgz3
    go_enter Try.func30, Try.ntmps30
    go_wp2
    repeat (go_quiet (fail); try go_wp2)
    go_ret2
    exact ⟨by first | rfl | (simp [errW_none, errW_some] <;> rfl) | (simp [*, errW_none, errW_some] <;> rfl), by repeat (first | (with_reducible first | exact HI0.out | apply IsS38.alloc | apply IsS38.drewN | apply IsS38.drew | apply IsS38.set_0 | apply IsS38.set_1 | apply IsS38.set_2 | apply IsS38.set_3 | apply IsS38.set_4 | apply IsS38.set_5 | apply IsS38.set_6 | apply IsS38.set_7 | apply IsS38.set_8 | apply IsS38.set_9 | apply IsS38.set_10) | exact HI0.out), by repeat (first | (with_reducible first | exact HB.out | apply below_alloc | apply pw_below_drewN | apply below_drew1 | refine below_set ?_ (IsS38.ge HI0.out)) | exact HB.out), by repeat (first | (with_reducible first | exact HK.out | apply KeepBut.set_ | apply keep_drewN | apply keep_drew | apply keep_alloc) | exact HK.out)⟩
  · rw [if_neg c2] at H
    have c2b0 : ((Go.bits .and .u32 (Go.bits .and .u32 s0_9 s0_3) 8) == 0) = false := beq_eq_false_iff_ne.mpr c2
    have c2b1 : ((Go.bits .and .u32 (Go.bits .and .u32 s0_9 s0_3) 8) != 0) = true := bne_iff_ne.mpr c2
    by_cases c4 : s0_0 = true
    · subst c4
      have H1 : (some (2147483651, true, true, s0_1, s0_2, s0_3, s0_4, s0_5, s0_6, s0_7, s0_8, s0_9, s0_10)) = some (r1, r2, r3, r4, r5, r6, r7, r8, r9, r10, r11, r12, r13) := by rw [if_pos rfl] at H; exact H
      clear H
      have H := H1
      clear H1
      simp only [Option.some.injEq, Prod.mk.injEq] at H
      obtain ⟨rfl, rfl, rfl, rfl, rfl, rfl, rfl, rfl, rfl, rfl, rfl, rfl, rfl⟩ := H
      obtain ⟨HGz5, hgz5⟩ := HI0.out
      have hcz5_0 := cellS38_0 HGz5
      have hcz5_1 := cellS38_1 HGz5
      have hcz5_2 := cellS38_2 HGz5
      have hcz5_3 := cellS38_3 HGz5
      have hcz5_4 := cellS38_4 HGz5
      have hcz5_5 := cellS38_5 HGz5
      have hcz5_6 := cellS38_6 HGz5
      have hcz5_7 := cellS38_7 HGz5
      have hcz5_8 := cellS38_8 HGz5
      have hcz5_9 := cellS38_9 HGz5
      have hcz5_10 := cellS38_10 HGz5
      have hfz5_0 := blk_frozen HGz5 0
      have hfz5_1 := blk_frozen HGz5 1
      have hfz5_2 := blk_frozen HGz5 2
      have hfz5_3 := blk_frozen HGz5 3
      have hfz5_4 := blk_frozen HGz5 4
      have hfz5_5 := blk_frozen HGz5 5
      have hfz5_6 := blk_frozen HGz5 6
      have hfz5_7 := blk_frozen HGz5 7
      have hfz5_8 := blk_frozen HGz5 8
      have hfz5_9 := blk_frozen HGz5 9
      have hfz5_10 := blk_frozen HGz5 10
      clear HGz5 hgz5
      go_enter Try.func30, Try.ntmps30
      go_wp2
      repeat (go_quiet (fail); try go_wp2)
      go_ret2
      exact ⟨by first | rfl | (simp [errW_none, errW_some] <;> rfl) | (simp [*, errW_none, errW_some] <;> rfl), by repeat (first | (with_reducible first | exact HI0.out | apply IsS38.alloc | apply IsS38.drewN | apply IsS38.drew | apply IsS38.set_0 | apply IsS38.set_1 | apply IsS38.set_2 | apply IsS38.set_3 | apply IsS38.set_4 | apply IsS38.set_5 | apply IsS38.set_6 | apply IsS38.set_7 | apply IsS38.set_8 | apply IsS38.set_9 | apply IsS38.set_10) | exact HI0.out), by repeat (first | (with_reducible first | exact HB.out | apply below_alloc | apply pw_below_drewN | apply below_drew1 | refine below_set ?_ (IsS38.ge HI0.out)) | exact HB.out), by repeat (first | (with_reducible first | exact HK.out | apply KeepBut.set_ | apply keep_drewN | apply keep_drew | apply keep_alloc) | exact HK.out)⟩
    · replace c4 := Bool.eq_false_iff.mpr c4
      subst c4
      have H1 : (if (Go.bits .and .u32 s0_2 8) = 0 then (some (0, false, false, s0_1, s0_2, s0_3, s0_4, s0_5, s0_6, s0_7, s0_8, s0_9, s0_10)) else (some (2147483651, true, false, s0_1, s0_2, s0_3, s0_4, s0_5, s0_6, s0_7, s0_8, s0_9, s0_10))) = some (r1, r2, r3, r4, r5, r6, r7, r8, r9, r10, r11, r12, r13) := by rw [if_neg (show ¬ (false = true) by decide)] at H; exact H
      clear H
      have H := H1
      clear H1
      by_cases c6 : (Go.bits .and .u32 s0_2 8) = 0
      · rw [if_pos c6] at H
        have c6b0 : ((Go.bits .and .u32 s0_2 8) == 0) = true := beq_iff_eq.mpr c6
        have c6b1 : ((Go.bits .and .u32 s0_2 8) != 0) = false := bne_eq_false_iff_eq.mpr c6
        clear c6
        simp only [Option.some.injEq, Prod.mk.injEq] at H
        obtain ⟨rfl, rfl, rfl, rfl, rfl, rfl, rfl, rfl, rfl, rfl, rfl, rfl, rfl⟩ := H
        obtain ⟨HGz7, hgz7⟩ := HI0.out
        have hcz7_0 := cellS38_0 HGz7
        have hcz7_1 := cellS38_1 HGz7
        have hcz7_2 := cellS38_2 HGz7
        have hcz7_3 := cellS38_3 HGz7
        have hcz7_4 := cellS38_4 HGz7
        have hcz7_5 := cellS38_5 HGz7
        have hcz7_6 := cellS38_6 HGz7
        have hcz7_7 := cellS38_7 HGz7
        have hcz7_8 := cellS38_8 HGz7
        have hcz7_9 := cellS38_9 HGz7
        have hcz7_10 := cellS38_10 HGz7
        have hfz7_0 := blk_frozen HGz7 0
        have hfz7_1 := blk_frozen HGz7 1
        have hfz7_2 := blk_frozen HGz7 2
        have hfz7_3 := blk_frozen HGz7 3
        have hfz7_4 := blk_frozen HGz7 4
        have hfz7_5 := blk_frozen HGz7 5
        have hfz7_6 := blk_frozen HGz7 6
        have hfz7_7 := blk_frozen HGz7 7
        have hfz7_8 := blk_frozen HGz7 8
        have hfz7_9 := blk_frozen HGz7 9
        have hfz7_10 := blk_frozen HGz7 10
        clear HGz7 hgz7
        go_enter Try.func30, Try.ntmps30
        go_wp2
        repeat (go_quiet (fail); try go_wp2)
        go_ret2
        exact ⟨by first | rfl | (simp [errW_none, errW_some] <;> rfl) | (simp [*, errW_none, errW_some] <;> rfl), by repeat (first | (with_reducible first | exact HI0.out | apply IsS38.alloc | apply IsS38.drewN | apply IsS38.drew | apply IsS38.set_0 | apply IsS38.set_1 | apply IsS38.set_2 | apply IsS38.set_3 | apply IsS38.set_4 | apply IsS38.set_5 | apply IsS38.set_6 | apply IsS38.set_7 | apply IsS38.set_8 | apply IsS38.set_9 | apply IsS38.set_10) | exact HI0.out), by repeat (first | (with_reducible first | exact HB.out | apply below_alloc | apply pw_below_drewN | apply below_drew1 | refine below_set ?_ (IsS38.ge HI0.out)) | exact HB.out), by repeat (first | (with_reducible first | exact HK.out | apply KeepBut.set_ | apply keep_drewN | apply keep_drew | apply keep_alloc) | exact HK.out)⟩
      · rw [if_neg c6] at H
        have c6b0 : ((Go.bits .and .u32 s0_2 8) == 0) = false := beq_eq_false_iff_ne.mpr c6
        have c6b1 : ((Go.bits .and .u32 s0_2 8) != 0) = true := bne_iff_ne.mpr c6
        simp only [Option.some.injEq, Prod.mk.injEq] at H
        obtain ⟨rfl, rfl, rfl, rfl, rfl, rfl, rfl, rfl, rfl, rfl, rfl, rfl, rfl⟩ := H
        obtain ⟨HGz8, hgz8⟩ := HI0.out
        have hcz8_0 := cellS38_0 HGz8
        have hcz8_1 := cellS38_1 HGz8
        have hcz8_2 := cellS38_2 HGz8
        have hcz8_3 := cellS38_3 HGz8
        have hcz8_4 := cellS38_4 HGz8
        have hcz8_5 := cellS38_5 HGz8
        have hcz8_6 := cellS38_6 HGz8
        have hcz8_7 := cellS38_7 HGz8
        have hcz8_8 := cellS38_8 HGz8
        have hcz8_9 := cellS38_9 HGz8
        have hcz8_10 := cellS38_10 HGz8
        have hfz8_0 := blk_frozen HGz8 0
        have hfz8_1 := blk_frozen HGz8 1
        have hfz8_2 := blk_frozen HGz8 2
        have hfz8_3 := blk_frozen HGz8 3
        have hfz8_4 := blk_frozen HGz8 4
        have hfz8_5 := blk_frozen HGz8 5
        have hfz8_6 := blk_frozen HGz8 6
        have hfz8_7 := blk_frozen HGz8 7
        have hfz8_8 := blk_frozen HGz8 8
        have hfz8_9 := blk_frozen HGz8 9
        have hfz8_10 := blk_frozen HGz8 10
        clear HGz8 hgz8
        go_enter Try.func30, Try.ntmps30
        go_wp2
        repeat (go_quiet (fail); try go_wp2)
        go_ret2
        exact ⟨by first | rfl | (simp [errW_none, errW_some] <;> rfl) | (simp [*, errW_none, errW_some] <;> rfl), by repeat (first | (with_reducible first | exact HI0.out | apply IsS38.alloc | apply IsS38.drewN | apply IsS38.drew | apply IsS38.set_0 | apply IsS38.set_1 | apply IsS38.set_2 | apply IsS38.set_3 | apply IsS38.set_4 | apply IsS38.set_5 | apply IsS38.set_6 | apply IsS38.set_7 | apply IsS38.set_8 | apply IsS38.set_9 | apply IsS38.set_10) | exact HI0.out), by repeat (first | (with_reducible first | exact HB.out | apply below_alloc | apply pw_below_drewN | apply below_drew1 | refine below_set ?_ (IsS38.ge HI0.out)) | exact HB.out), by repeat (first | (with_reducible first | exact HK.out | apply KeepBut.set_ | apply keep_drewN | apply keep_drew | apply keep_alloc) | exact HK.out)⟩

/-! ### corrallaw6_map2: function 31 -/
def corrallaw6_map2.f (a0 : Bool) : Option (Int) := if a0 = true then (some 0) else (some 3)
set_option maxHeartbeats 8000000 in
set_option maxRecDepth 100000 in
theorem corrallaw6_map2.calls (a0 : Bool) (r : Int) (w : World) (h : corrallaw6_map2.f a0 = some r) :
    Calls Try.prog 31 #[.bool a0] w fun e w' => e = .returned (.int .i64 r) ∧ Drawn0 w w' := by
  have H : (if a0 = true then (some 0) else (some 3)) = some r := h
  clear h
  by_cases c2 : a0 = true
  · subst c2
    have H1 : (some 0) = some r := by rw [if_pos rfl] at H; exact H
    clear H
    have H := H1
    clear H1
    obtain rfl := Option.some.inj H
    go_enter Try.func31, Try.ntmps31
    go_wp2
    go_ret
    exact ⟨by first | rfl | (simp; done) | (simp [*]; done), by repeat (first | exact Drawn0.refl _ | apply Drawn0.step)⟩
  · replace c2 := Bool.eq_false_iff.mpr c2
    subst c2
    have H1 : (some 3) = some r := by rw [if_neg (show ¬ (false = true) by decide)] at H; exact H
    clear H
    have H := H1
    clear H1
    obtain rfl := Option.some.inj H
    go_enter Try.func31, Try.ntmps31
    go_wp2
    go_ret
    exact ⟨by first | rfl | (simp; done) | (simp [*]; done), by repeat (first | exact Drawn0.refl _ | apply Drawn0.step)⟩

/-! ### corrallaw6_CsrReturns: function 10 -/
mutual
def corrallaw6_CsrReturns.j0 : Nat → Int → Int → Int → Bool → Bool → Bool → Int → Int → Int → Int → Int → Int → Int → Int → Int → Int → Option (Bool)
  | 0, _, _, _, _, _, _, _, _, _, _, _, _, _, _, _, _ => none
  | k + 1, x1, x2, x3, x4, x11, x217000, x217001, x217002, x217003, x217004, x217005, x217006, x217007, x217008, x217009, x217010 => (csr_File_Mode.f x217000 x217001 x217002 x217003 x217004 x217005 x217006 x217007 x217008 x217009 x217010).bind fun bt289 => ((csr_File_Trap.f bt289.2.1 bt289.2.2.1 bt289.2.2.2.1 bt289.2.2.2.2.1 bt289.2.2.2.2.2.1 bt289.2.2.2.2.2.2.1 bt289.2.2.2.2.2.2.2.1 bt289.2.2.2.2.2.2.2.2.1 bt289.2.2.2.2.2.2.2.2.2.1 bt289.2.2.2.2.2.2.2.2.2.2.1 bt289.2.2.2.2.2.2.2.2.2.2.2 x1 x2 x3).bind fun bt302 => ((csr_File_Get.f bt302.2.1 bt302.2.2.1 bt302.2.2.2.1 bt302.2.2.2.2.1 bt302.2.2.2.2.2.1 bt302.2.2.2.2.2.2.1 bt302.2.2.2.2.2.2.2.1 bt302.2.2.2.2.2.2.2.2.1 bt302.2.2.2.2.2.2.2.2.2.1 bt302.2.2.2.2.2.2.2.2.2.2.1 bt302.2.2.2.2.2.2.2.2.2.2.2 834).bind fun bt314 => ((csr_File_Get.f bt314.2.2.1 bt314.2.2.2.1 bt314.2.2.2.2.1 bt314.2.2.2.2.2.1 bt314.2.2.2.2.2.2.1 bt314.2.2.2.2.2.2.2.1 bt314.2.2.2.2.2.2.2.2.1 bt314.2.2.2.2.2.2.2.2.2.1 bt314.2.2.2.2.2.2.2.2.2.2.1 bt314.2.2.2.2.2.2.2.2.2.2.2.1 bt314.2.2.2.2.2.2.2.2.2.2.2.2 835).bind fun bt327 => ((csr_File_Mode.f bt327.2.2.1 bt327.2.2.2.1 bt327.2.2.2.2.1 bt327.2.2.2.2.2.1 bt327.2.2.2.2.2.2.1 bt327.2.2.2.2.2.2.2.1 bt327.2.2.2.2.2.2.2.2.1 bt327.2.2.2.2.2.2.2.2.2.1 bt327.2.2.2.2.2.2.2.2.2.2.1 bt327.2.2.2.2.2.2.2.2.2.2.2.1 bt327.2.2.2.2.2.2.2.2.2.2.2.2).bind fun bt340 => (if bt340.1 = 3 then (if bt314.1 = x1 then (if bt327.1 = x2 then ((csr_File_Return.f bt340.2.1 bt340.2.2.1 bt340.2.2.2.1 bt340.2.2.2.2.1 bt340.2.2.2.2.2.1 bt340.2.2.2.2.2.2.1 bt340.2.2.2.2.2.2.2.1 bt340.2.2.2.2.2.2.2.2.1 bt340.2.2.2.2.2.2.2.2.2.1 bt340.2.2.2.2.2.2.2.2.2.2.1 bt340.2.2.2.2.2.2.2.2.2.2.2).bind fun bt352 => (if bt352.1 = (Go.bits .andNot .u32 x3 3) then ((csr_File_Mode.f bt352.2.1 bt352.2.2.1 bt352.2.2.2.1 bt352.2.2.2.2.1 bt352.2.2.2.2.2.1 bt352.2.2.2.2.2.2.1 bt352.2.2.2.2.2.2.2.1 bt352.2.2.2.2.2.2.2.2.1 bt352.2.2.2.2.2.2.2.2.2.1 bt352.2.2.2.2.2.2.2.2.2.2.1 bt352.2.2.2.2.2.2.2.2.2.2.2).bind fun bt364 => (corrallaw6_CsrReturns.j1 k x4 x11 bt289.1 (bt364.1 != bt289.1) bt364.2.1 bt364.2.2.1 bt364.2.2.2.1 bt364.2.2.2.2.1 bt364.2.2.2.2.2.1 bt364.2.2.2.2.2.2.1 bt364.2.2.2.2.2.2.2.1 bt364.2.2.2.2.2.2.2.2.1 bt364.2.2.2.2.2.2.2.2.2.1 bt364.2.2.2.2.2.2.2.2.2.2.1 bt364.2.2.2.2.2.2.2.2.2.2.2 bt289.2.1 bt289.2.2.1 bt289.2.2.2.1 bt289.2.2.2.2.1 bt289.2.2.2.2.2.1 bt289.2.2.2.2.2.2.1 bt289.2.2.2.2.2.2.2.1 bt289.2.2.2.2.2.2.2.2.1 bt289.2.2.2.2.2.2.2.2.2.1 bt289.2.2.2.2.2.2.2.2.2.2.1 bt289.2.2.2.2.2.2.2.2.2.2.2)) else (corrallaw6_CsrReturns.j1 k x4 x11 bt289.1 true bt352.2.1 bt352.2.2.1 bt352.2.2.2.1 bt352.2.2.2.2.1 bt352.2.2.2.2.2.1 bt352.2.2.2.2.2.2.1 bt352.2.2.2.2.2.2.2.1 bt352.2.2.2.2.2.2.2.2.1 bt352.2.2.2.2.2.2.2.2.2.1 bt352.2.2.2.2.2.2.2.2.2.2.1 bt352.2.2.2.2.2.2.2.2.2.2.2 bt289.2.1 bt289.2.2.1 bt289.2.2.2.1 bt289.2.2.2.2.1 bt289.2.2.2.2.2.1 bt289.2.2.2.2.2.2.1 bt289.2.2.2.2.2.2.2.1 bt289.2.2.2.2.2.2.2.2.1 bt289.2.2.2.2.2.2.2.2.2.1 bt289.2.2.2.2.2.2.2.2.2.2.1 bt289.2.2.2.2.2.2.2.2.2.2.2))) else (corrallaw6_CsrReturns.j1 k x4 x11 bt289.1 true bt340.2.1 bt340.2.2.1 bt340.2.2.2.1 bt340.2.2.2.2.1 bt340.2.2.2.2.2.1 bt340.2.2.2.2.2.2.1 bt340.2.2.2.2.2.2.2.1 bt340.2.2.2.2.2.2.2.2.1 bt340.2.2.2.2.2.2.2.2.2.1 bt340.2.2.2.2.2.2.2.2.2.2.1 bt340.2.2.2.2.2.2.2.2.2.2.2 bt289.2.1 bt289.2.2.1 bt289.2.2.2.1 bt289.2.2.2.2.1 bt289.2.2.2.2.2.1 bt289.2.2.2.2.2.2.1 bt289.2.2.2.2.2.2.2.1 bt289.2.2.2.2.2.2.2.2.1 bt289.2.2.2.2.2.2.2.2.2.1 bt289.2.2.2.2.2.2.2.2.2.2.1 bt289.2.2.2.2.2.2.2.2.2.2.2)) else (corrallaw6_CsrReturns.j1 k x4 x11 bt289.1 true bt340.2.1 bt340.2.2.1 bt340.2.2.2.1 bt340.2.2.2.2.1 bt340.2.2.2.2.2.1 bt340.2.2.2.2.2.2.1 bt340.2.2.2.2.2.2.2.1 bt340.2.2.2.2.2.2.2.2.1 bt340.2.2.2.2.2.2.2.2.2.1 bt340.2.2.2.2.2.2.2.2.2.2.1 bt340.2.2.2.2.2.2.2.2.2.2.2 bt289.2.1 bt289.2.2.1 bt289.2.2.2.1 bt289.2.2.2.2.1 bt289.2.2.2.2.2.1 bt289.2.2.2.2.2.2.1 bt289.2.2.2.2.2.2.2.1 bt289.2.2.2.2.2.2.2.2.1 bt289.2.2.2.2.2.2.2.2.2.1 bt289.2.2.2.2.2.2.2.2.2.2.1 bt289.2.2.2.2.2.2.2.2.2.2.2)) else (corrallaw6_CsrReturns.j1 k x4 x11 bt289.1 true bt340.2.1 bt340.2.2.1 bt340.2.2.2.1 bt340.2.2.2.2.1 bt340.2.2.2.2.2.1 bt340.2.2.2.2.2.2.1 bt340.2.2.2.2.2.2.2.1 bt340.2.2.2.2.2.2.2.2.1 bt340.2.2.2.2.2.2.2.2.2.1 bt340.2.2.2.2.2.2.2.2.2.2.1 bt340.2.2.2.2.2.2.2.2.2.2.2 bt289.2.1 bt289.2.2.1 bt289.2.2.2.1 bt289.2.2.2.2.1 bt289.2.2.2.2.2.1 bt289.2.2.2.2.2.2.1 bt289.2.2.2.2.2.2.2.1 bt289.2.2.2.2.2.2.2.2.1 bt289.2.2.2.2.2.2.2.2.2.1 bt289.2.2.2.2.2.2.2.2.2.2.1 bt289.2.2.2.2.2.2.2.2.2.2.2))))))
def corrallaw6_CsrReturns.j1 : Nat → Bool → Bool → Int → Bool → Bool → Int → Int → Int → Int → Int → Int → Int → Int → Int → Int → Bool → Int → Int → Int → Int → Int → Int → Int → Int → Int → Int → Option (Bool)
  | 0, _, _, _, _, _, _, _, _, _, _, _, _, _, _, _, _, _, _, _, _, _, _, _, _, _, _ => none
  | k + 1, x4, x11, x13, x74, x217000, x217001, x217002, x217003, x217004, x217005, x217006, x217007, x217008, x217009, x217010, x302000, x302001, x302002, x302003, x302004, x302005, x302006, x302007, x302008, x302009, x302010 => if x74 = true then (some false) else ((csr_File_Bell.f x217000 x217001 x217002 x217003 x217004 x217005 x217006 x217007 x217008 x217009 x217010 true).bind fun bt376 => ((csr_File_Bell.f x302000 x302001 x302002 x302003 x302004 x302005 x302006 x302007 x302008 x302009 x302010 true).bind fun bt387 => ((csr_File_Pending.f bt376.1 bt376.2.1 bt376.2.2.1 bt376.2.2.2.1 bt376.2.2.2.2.1 bt376.2.2.2.2.2.1 bt376.2.2.2.2.2.2.1 bt376.2.2.2.2.2.2.2.1 bt376.2.2.2.2.2.2.2.2.1 bt376.2.2.2.2.2.2.2.2.2.1 bt376.2.2.2.2.2.2.2.2.2.2).bind fun bt398 => ((csr_File_Pending.f bt387.1 bt387.2.1 bt387.2.2.1 bt387.2.2.2.1 bt387.2.2.2.2.1 bt387.2.2.2.2.2.1 bt387.2.2.2.2.2.2.1 bt387.2.2.2.2.2.2.2.1 bt387.2.2.2.2.2.2.2.2.1 bt387.2.2.2.2.2.2.2.2.2.1 bt387.2.2.2.2.2.2.2.2.2.2).bind fun bt411 => (if x11 = true then (if bt398.1 = bt411.1 then (if (bt398.2.1 == bt411.2.1) = true then ((corrallaw6_map2.f x4).bind fun t424 => (some (x13 == t424))) else (some false)) else (some false)) else (some false))))))
end
def corrallaw6_CsrReturns.f (k : Nat) (a0 : Int) (a1 : Int) (a2 : Int) (a3 : Int) (a4 : Bool) : Option (Bool) := (corrallaw6_first.f).bind fun t204 => (if t204 = true then ((csr_New.f 0).bind fun bt205 => ((csr_File_Set.f bt205.1 bt205.2.1 bt205.2.2.1 bt205.2.2.2.1 bt205.2.2.2.2.1 bt205.2.2.2.2.2.1 bt205.2.2.2.2.2.2.1 bt205.2.2.2.2.2.2.2.1 bt205.2.2.2.2.2.2.2.2.1 bt205.2.2.2.2.2.2.2.2.2.1 bt205.2.2.2.2.2.2.2.2.2.2 772 8).bind fun bt217 => ((csr_File_Set.f bt217.2.1 bt217.2.2.1 bt217.2.2.2.1 bt217.2.2.2.2.1 bt217.2.2.2.2.2.1 bt217.2.2.2.2.2.2.1 bt217.2.2.2.2.2.2.2.1 bt217.2.2.2.2.2.2.2.2.1 bt217.2.2.2.2.2.2.2.2.2.1 bt217.2.2.2.2.2.2.2.2.2.2.1 bt217.2.2.2.2.2.2.2.2.2.2.2 768 (Go.bits .andNot .u32 a0 6144)).bind fun bt229 => (if a4 = true then ((csr_File_Return.f bt229.2.1 bt229.2.2.1 bt229.2.2.2.1 bt229.2.2.2.2.1 bt229.2.2.2.2.2.1 bt229.2.2.2.2.2.2.1 bt229.2.2.2.2.2.2.2.1 bt229.2.2.2.2.2.2.2.2.1 bt229.2.2.2.2.2.2.2.2.2.1 bt229.2.2.2.2.2.2.2.2.2.2.1 bt229.2.2.2.2.2.2.2.2.2.2.2).bind fun bt241 => ((csr_File_Trap.f bt241.2.1 bt241.2.2.1 bt241.2.2.2.1 bt241.2.2.2.2.1 bt241.2.2.2.2.2.1 bt241.2.2.2.2.2.2.1 bt241.2.2.2.2.2.2.2.1 bt241.2.2.2.2.2.2.2.2.1 bt241.2.2.2.2.2.2.2.2.2.1 bt241.2.2.2.2.2.2.2.2.2.2.1 bt241.2.2.2.2.2.2.2.2.2.2.2 0 0 0).bind fun bt253 => ((csr_File_Set.f bt253.2.1 bt253.2.2.1 bt253.2.2.2.1 bt253.2.2.2.2.1 bt253.2.2.2.2.2.1 bt253.2.2.2.2.2.2.1 bt253.2.2.2.2.2.2.2.1 bt253.2.2.2.2.2.2.2.2.1 bt253.2.2.2.2.2.2.2.2.2.1 bt253.2.2.2.2.2.2.2.2.2.2.1 bt253.2.2.2.2.2.2.2.2.2.2.2 768 (Go.bits .andNot .u32 a0 6144)).bind fun bt265 => ((csr_File_Return.f bt265.2.1 bt265.2.2.1 bt265.2.2.2.1 bt265.2.2.2.2.1 bt265.2.2.2.2.2.1 bt265.2.2.2.2.2.2.1 bt265.2.2.2.2.2.2.2.1 bt265.2.2.2.2.2.2.2.2.1 bt265.2.2.2.2.2.2.2.2.2.1 bt265.2.2.2.2.2.2.2.2.2.2.1 bt265.2.2.2.2.2.2.2.2.2.2.2).bind fun bt277 => (corrallaw6_CsrReturns.j0 k a1 a2 a3 a4 t204 bt277.2.1 bt277.2.2.1 bt277.2.2.2.1 bt277.2.2.2.2.1 bt277.2.2.2.2.2.1 bt277.2.2.2.2.2.2.1 bt277.2.2.2.2.2.2.2.1 bt277.2.2.2.2.2.2.2.2.1 bt277.2.2.2.2.2.2.2.2.2.1 bt277.2.2.2.2.2.2.2.2.2.2.1 bt277.2.2.2.2.2.2.2.2.2.2.2))))) else (corrallaw6_CsrReturns.j0 k a1 a2 a3 a4 t204 bt229.2.1 bt229.2.2.1 bt229.2.2.2.1 bt229.2.2.2.2.1 bt229.2.2.2.2.2.1 bt229.2.2.2.2.2.2.1 bt229.2.2.2.2.2.2.2.1 bt229.2.2.2.2.2.2.2.2.1 bt229.2.2.2.2.2.2.2.2.2.1 bt229.2.2.2.2.2.2.2.2.2.2.1 bt229.2.2.2.2.2.2.2.2.2.2.2))))) else (some false))
theorem corrallaw6_CsrReturns.mono_l : ∀ k, (∀ y0 y1 y2 y3 y4 y5 y6 y7 y8 y9 y10 y11 y12 y13 y14 y15, LeO (corrallaw6_CsrReturns.j0 k y0 y1 y2 y3 y4 y5 y6 y7 y8 y9 y10 y11 y12 y13 y14 y15) (corrallaw6_CsrReturns.j0 (k + 1) y0 y1 y2 y3 y4 y5 y6 y7 y8 y9 y10 y11 y12 y13 y14 y15)) ∧ (∀ y0 y1 y2 y3 y4 y5 y6 y7 y8 y9 y10 y11 y12 y13 y14 y15 y16 y17 y18 y19 y20 y21 y22 y23 y24 y25, LeO (corrallaw6_CsrReturns.j1 k y0 y1 y2 y3 y4 y5 y6 y7 y8 y9 y10 y11 y12 y13 y14 y15 y16 y17 y18 y19 y20 y21 y22 y23 y24 y25) (corrallaw6_CsrReturns.j1 (k + 1) y0 y1 y2 y3 y4 y5 y6 y7 y8 y9 y10 y11 y12 y13 y14 y15 y16 y17 y18 y19 y20 y21 y22 y23 y24 y25))
  | 0 => ⟨fun _ _ _ _ _ _ _ _ _ _ _ _ _ _ _ _ r h => by simp [corrallaw6_CsrReturns.j0] at h, fun _ _ _ _ _ _ _ _ _ _ _ _ _ _ _ _ _ _ _ _ _ _ _ _ _ _ r h => by simp [corrallaw6_CsrReturns.j1] at h⟩
  | k + 1 => by
    obtain ⟨ih0, ih1⟩ := corrallaw6_CsrReturns.mono_l k
    refine ⟨?_, ?_⟩
    · intro y0 y1 y2 y3 y4 y5 y6 y7 y8 y9 y10 y11 y12 y13 y14 y15
      unfold corrallaw6_CsrReturns.j0
      repeat' first
      | (with_reducible exact ih0 _ _ _ _ _ _ _ _ _ _ _ _ _ _ _ _)
      | (with_reducible exact ih1 _ _ _ _ _ _ _ _ _ _ _ _ _ _ _ _ _ _ _ _ _ _ _ _ _ _)
      | (with_reducible exact LeO.refl _)
      | (with_reducible exact LeO.none _)
      | (with_reducible refine LeO.ite ?_ ?_)
      | (with_reducible refine LeO.bind ?_ (fun _ => ?_))
      | exact ih0 _ _ _ _ _ _ _ _ _ _ _ _ _ _ _ _
      | exact ih1 _ _ _ _ _ _ _ _ _ _ _ _ _ _ _ _ _ _ _ _ _ _ _ _ _ _
      | exact LeO.none _
      | refine LeO.ite ?_ ?_
      | refine LeO.bind ?_ (fun _ => ?_)
    · intro y0 y1 y2 y3 y4 y5 y6 y7 y8 y9 y10 y11 y12 y13 y14 y15 y16 y17 y18 y19 y20 y21 y22 y23 y24 y25
      unfold corrallaw6_CsrReturns.j1
      repeat' first
      | (with_reducible exact ih0 _ _ _ _ _ _ _ _ _ _ _ _ _ _ _ _)
      | (with_reducible exact ih1 _ _ _ _ _ _ _ _ _ _ _ _ _ _ _ _ _ _ _ _ _ _ _ _ _ _)
      | (with_reducible exact LeO.refl _)
      | (with_reducible exact LeO.none _)
      | (with_reducible refine LeO.ite ?_ ?_)
      | (with_reducible refine LeO.bind ?_ (fun _ => ?_))
      | exact ih0 _ _ _ _ _ _ _ _ _ _ _ _ _ _ _ _
      | exact ih1 _ _ _ _ _ _ _ _ _ _ _ _ _ _ _ _ _ _ _ _ _ _ _ _ _ _
      | exact LeO.none _
      | refine LeO.ite ?_ ?_
      | refine LeO.bind ?_ (fun _ => ?_)
theorem corrallaw6_CsrReturns.mono : ∀ a0 a1 a2 a3 a4 k, LeO (corrallaw6_CsrReturns.f k a0 a1 a2 a3 a4) (corrallaw6_CsrReturns.f (k + 1) a0 a1 a2 a3 a4) := by
  intro a0 a1 a2 a3 a4 k
  obtain ⟨ih0, ih1⟩ := corrallaw6_CsrReturns.mono_l k
  unfold corrallaw6_CsrReturns.f
  repeat' first
      | (with_reducible exact ih0 _ _ _ _ _ _ _ _ _ _ _ _ _ _ _ _)
      | (with_reducible exact ih1 _ _ _ _ _ _ _ _ _ _ _ _ _ _ _ _ _ _ _ _ _ _ _ _ _ _)
      | (with_reducible exact LeO.refl _)
      | (with_reducible exact LeO.none _)
      | (with_reducible refine LeO.ite ?_ ?_)
      | (with_reducible refine LeO.bind ?_ (fun _ => ?_))
      | exact ih0 _ _ _ _ _ _ _ _ _ _ _ _ _ _ _ _
      | exact ih1 _ _ _ _ _ _ _ _ _ _ _ _ _ _ _ _ _ _ _ _ _ _ _ _ _ _
      | exact LeO.none _
      | refine LeO.ite ?_ ?_
      | refine LeO.bind ?_ (fun _ => ?_)
set_option maxHeartbeats 8000000 in
set_option maxRecDepth 100000 in
theorem corrallaw6_CsrReturns.calls (k : Nat) (a0 : Int) (a1 : Int) (a2 : Int) (a3 : Int) (a4 : Bool) (r : Bool) (w : World) (h : corrallaw6_CsrReturns.f k a0 a1 a2 a3 a4 = some r) (hrtrue : r = true) :
    Calls Try.prog 10 #[.int .u32 a0, .int .u32 a1, .int .u32 a2, .int .u32 a3, .bool a4] w fun e w' => e = .returned (.bool r) ∧ Below w.heap.size w w' := by
  have hu38 := Try.underlying38
  have HB := Aside0.mk (Below.refl w.heap.size w)
  have H : ((corrallaw6_first.f).bind fun t204 => (if t204 = true then ((csr_New.f 0).bind fun bt205 => ((csr_File_Set.f bt205.1 bt205.2.1 bt205.2.2.1 bt205.2.2.2.1 bt205.2.2.2.2.1 bt205.2.2.2.2.2.1 bt205.2.2.2.2.2.2.1 bt205.2.2.2.2.2.2.2.1 bt205.2.2.2.2.2.2.2.2.1 bt205.2.2.2.2.2.2.2.2.2.1 bt205.2.2.2.2.2.2.2.2.2.2 772 8).bind fun bt217 => ((csr_File_Set.f bt217.2.1 bt217.2.2.1 bt217.2.2.2.1 bt217.2.2.2.2.1 bt217.2.2.2.2.2.1 bt217.2.2.2.2.2.2.1 bt217.2.2.2.2.2.2.2.1 bt217.2.2.2.2.2.2.2.2.1 bt217.2.2.2.2.2.2.2.2.2.1 bt217.2.2.2.2.2.2.2.2.2.2.1 bt217.2.2.2.2.2.2.2.2.2.2.2 768 (Go.bits .andNot .u32 a0 6144)).bind fun bt229 => (if a4 = true then ((csr_File_Return.f bt229.2.1 bt229.2.2.1 bt229.2.2.2.1 bt229.2.2.2.2.1 bt229.2.2.2.2.2.1 bt229.2.2.2.2.2.2.1 bt229.2.2.2.2.2.2.2.1 bt229.2.2.2.2.2.2.2.2.1 bt229.2.2.2.2.2.2.2.2.2.1 bt229.2.2.2.2.2.2.2.2.2.2.1 bt229.2.2.2.2.2.2.2.2.2.2.2).bind fun bt241 => ((csr_File_Trap.f bt241.2.1 bt241.2.2.1 bt241.2.2.2.1 bt241.2.2.2.2.1 bt241.2.2.2.2.2.1 bt241.2.2.2.2.2.2.1 bt241.2.2.2.2.2.2.2.1 bt241.2.2.2.2.2.2.2.2.1 bt241.2.2.2.2.2.2.2.2.2.1 bt241.2.2.2.2.2.2.2.2.2.2.1 bt241.2.2.2.2.2.2.2.2.2.2.2 0 0 0).bind fun bt253 => ((csr_File_Set.f bt253.2.1 bt253.2.2.1 bt253.2.2.2.1 bt253.2.2.2.2.1 bt253.2.2.2.2.2.1 bt253.2.2.2.2.2.2.1 bt253.2.2.2.2.2.2.2.1 bt253.2.2.2.2.2.2.2.2.1 bt253.2.2.2.2.2.2.2.2.2.1 bt253.2.2.2.2.2.2.2.2.2.2.1 bt253.2.2.2.2.2.2.2.2.2.2.2 768 (Go.bits .andNot .u32 a0 6144)).bind fun bt265 => ((csr_File_Return.f bt265.2.1 bt265.2.2.1 bt265.2.2.2.1 bt265.2.2.2.2.1 bt265.2.2.2.2.2.1 bt265.2.2.2.2.2.2.1 bt265.2.2.2.2.2.2.2.1 bt265.2.2.2.2.2.2.2.2.1 bt265.2.2.2.2.2.2.2.2.2.1 bt265.2.2.2.2.2.2.2.2.2.2.1 bt265.2.2.2.2.2.2.2.2.2.2.2).bind fun bt277 => (corrallaw6_CsrReturns.j0 k a1 a2 a3 a4 t204 bt277.2.1 bt277.2.2.1 bt277.2.2.2.1 bt277.2.2.2.2.1 bt277.2.2.2.2.2.1 bt277.2.2.2.2.2.2.1 bt277.2.2.2.2.2.2.2.1 bt277.2.2.2.2.2.2.2.2.1 bt277.2.2.2.2.2.2.2.2.2.1 bt277.2.2.2.2.2.2.2.2.2.2.1 bt277.2.2.2.2.2.2.2.2.2.2.2))))) else (corrallaw6_CsrReturns.j0 k a1 a2 a3 a4 t204 bt229.2.1 bt229.2.2.1 bt229.2.2.2.1 bt229.2.2.2.2.1 bt229.2.2.2.2.2.1 bt229.2.2.2.2.2.2.1 bt229.2.2.2.2.2.2.2.1 bt229.2.2.2.2.2.2.2.2.1 bt229.2.2.2.2.2.2.2.2.2.1 bt229.2.2.2.2.2.2.2.2.2.2.1 bt229.2.2.2.2.2.2.2.2.2.2.2))))) else (some false))) = some r := h
  clear h
  have HRT := Aside0.mk hrtrue
  clear hrtrue
  replace H := Option.bind_eq_some_iff.mp H
  obtain ⟨t204, A60, H⟩ := H
  replace H : (if t204 = true then ((csr_New.f 0).bind fun bt205 => ((csr_File_Set.f bt205.1 bt205.2.1 bt205.2.2.1 bt205.2.2.2.1 bt205.2.2.2.2.1 bt205.2.2.2.2.2.1 bt205.2.2.2.2.2.2.1 bt205.2.2.2.2.2.2.2.1 bt205.2.2.2.2.2.2.2.2.1 bt205.2.2.2.2.2.2.2.2.2.1 bt205.2.2.2.2.2.2.2.2.2.2 772 8).bind fun bt217 => ((csr_File_Set.f bt217.2.1 bt217.2.2.1 bt217.2.2.2.1 bt217.2.2.2.2.1 bt217.2.2.2.2.2.1 bt217.2.2.2.2.2.2.1 bt217.2.2.2.2.2.2.2.1 bt217.2.2.2.2.2.2.2.2.1 bt217.2.2.2.2.2.2.2.2.2.1 bt217.2.2.2.2.2.2.2.2.2.2.1 bt217.2.2.2.2.2.2.2.2.2.2.2 768 (Go.bits .andNot .u32 a0 6144)).bind fun bt229 => (if a4 = true then ((csr_File_Return.f bt229.2.1 bt229.2.2.1 bt229.2.2.2.1 bt229.2.2.2.2.1 bt229.2.2.2.2.2.1 bt229.2.2.2.2.2.2.1 bt229.2.2.2.2.2.2.2.1 bt229.2.2.2.2.2.2.2.2.1 bt229.2.2.2.2.2.2.2.2.2.1 bt229.2.2.2.2.2.2.2.2.2.2.1 bt229.2.2.2.2.2.2.2.2.2.2.2).bind fun bt241 => ((csr_File_Trap.f bt241.2.1 bt241.2.2.1 bt241.2.2.2.1 bt241.2.2.2.2.1 bt241.2.2.2.2.2.1 bt241.2.2.2.2.2.2.1 bt241.2.2.2.2.2.2.2.1 bt241.2.2.2.2.2.2.2.2.1 bt241.2.2.2.2.2.2.2.2.2.1 bt241.2.2.2.2.2.2.2.2.2.2.1 bt241.2.2.2.2.2.2.2.2.2.2.2 0 0 0).bind fun bt253 => ((csr_File_Set.f bt253.2.1 bt253.2.2.1 bt253.2.2.2.1 bt253.2.2.2.2.1 bt253.2.2.2.2.2.1 bt253.2.2.2.2.2.2.1 bt253.2.2.2.2.2.2.2.1 bt253.2.2.2.2.2.2.2.2.1 bt253.2.2.2.2.2.2.2.2.2.1 bt253.2.2.2.2.2.2.2.2.2.2.1 bt253.2.2.2.2.2.2.2.2.2.2.2 768 (Go.bits .andNot .u32 a0 6144)).bind fun bt265 => ((csr_File_Return.f bt265.2.1 bt265.2.2.1 bt265.2.2.2.1 bt265.2.2.2.2.1 bt265.2.2.2.2.2.1 bt265.2.2.2.2.2.2.1 bt265.2.2.2.2.2.2.2.1 bt265.2.2.2.2.2.2.2.2.1 bt265.2.2.2.2.2.2.2.2.2.1 bt265.2.2.2.2.2.2.2.2.2.2.1 bt265.2.2.2.2.2.2.2.2.2.2.2).bind fun bt277 => (corrallaw6_CsrReturns.j0 k a1 a2 a3 a4 t204 bt277.2.1 bt277.2.2.1 bt277.2.2.2.1 bt277.2.2.2.2.1 bt277.2.2.2.2.2.1 bt277.2.2.2.2.2.2.1 bt277.2.2.2.2.2.2.2.1 bt277.2.2.2.2.2.2.2.2.1 bt277.2.2.2.2.2.2.2.2.2.1 bt277.2.2.2.2.2.2.2.2.2.2.1 bt277.2.2.2.2.2.2.2.2.2.2.2))))) else (corrallaw6_CsrReturns.j0 k a1 a2 a3 a4 t204 bt229.2.1 bt229.2.2.1 bt229.2.2.2.1 bt229.2.2.2.2.1 bt229.2.2.2.2.2.1 bt229.2.2.2.2.2.2.1 bt229.2.2.2.2.2.2.2.1 bt229.2.2.2.2.2.2.2.2.1 bt229.2.2.2.2.2.2.2.2.2.1 bt229.2.2.2.2.2.2.2.2.2.2.1 bt229.2.2.2.2.2.2.2.2.2.2.2))))) else (some false)) = some r := H
  have A6 := Aside0.mk A60
  clear A60
  by_cases c7 : t204 = true
  · subst c7
    have H1 : ((csr_New.f 0).bind fun bt205 => ((csr_File_Set.f bt205.1 bt205.2.1 bt205.2.2.1 bt205.2.2.2.1 bt205.2.2.2.2.1 bt205.2.2.2.2.2.1 bt205.2.2.2.2.2.2.1 bt205.2.2.2.2.2.2.2.1 bt205.2.2.2.2.2.2.2.2.1 bt205.2.2.2.2.2.2.2.2.2.1 bt205.2.2.2.2.2.2.2.2.2.2 772 8).bind fun bt217 => ((csr_File_Set.f bt217.2.1 bt217.2.2.1 bt217.2.2.2.1 bt217.2.2.2.2.1 bt217.2.2.2.2.2.1 bt217.2.2.2.2.2.2.1 bt217.2.2.2.2.2.2.2.1 bt217.2.2.2.2.2.2.2.2.1 bt217.2.2.2.2.2.2.2.2.2.1 bt217.2.2.2.2.2.2.2.2.2.2.1 bt217.2.2.2.2.2.2.2.2.2.2.2 768 (Go.bits .andNot .u32 a0 6144)).bind fun bt229 => (if a4 = true then ((csr_File_Return.f bt229.2.1 bt229.2.2.1 bt229.2.2.2.1 bt229.2.2.2.2.1 bt229.2.2.2.2.2.1 bt229.2.2.2.2.2.2.1 bt229.2.2.2.2.2.2.2.1 bt229.2.2.2.2.2.2.2.2.1 bt229.2.2.2.2.2.2.2.2.2.1 bt229.2.2.2.2.2.2.2.2.2.2.1 bt229.2.2.2.2.2.2.2.2.2.2.2).bind fun bt241 => ((csr_File_Trap.f bt241.2.1 bt241.2.2.1 bt241.2.2.2.1 bt241.2.2.2.2.1 bt241.2.2.2.2.2.1 bt241.2.2.2.2.2.2.1 bt241.2.2.2.2.2.2.2.1 bt241.2.2.2.2.2.2.2.2.1 bt241.2.2.2.2.2.2.2.2.2.1 bt241.2.2.2.2.2.2.2.2.2.2.1 bt241.2.2.2.2.2.2.2.2.2.2.2 0 0 0).bind fun bt253 => ((csr_File_Set.f bt253.2.1 bt253.2.2.1 bt253.2.2.2.1 bt253.2.2.2.2.1 bt253.2.2.2.2.2.1 bt253.2.2.2.2.2.2.1 bt253.2.2.2.2.2.2.2.1 bt253.2.2.2.2.2.2.2.2.1 bt253.2.2.2.2.2.2.2.2.2.1 bt253.2.2.2.2.2.2.2.2.2.2.1 bt253.2.2.2.2.2.2.2.2.2.2.2 768 (Go.bits .andNot .u32 a0 6144)).bind fun bt265 => ((csr_File_Return.f bt265.2.1 bt265.2.2.1 bt265.2.2.2.1 bt265.2.2.2.2.1 bt265.2.2.2.2.2.1 bt265.2.2.2.2.2.2.1 bt265.2.2.2.2.2.2.2.1 bt265.2.2.2.2.2.2.2.2.1 bt265.2.2.2.2.2.2.2.2.2.1 bt265.2.2.2.2.2.2.2.2.2.2.1 bt265.2.2.2.2.2.2.2.2.2.2.2).bind fun bt277 => (corrallaw6_CsrReturns.j0 k a1 a2 a3 a4 true bt277.2.1 bt277.2.2.1 bt277.2.2.2.1 bt277.2.2.2.2.1 bt277.2.2.2.2.2.1 bt277.2.2.2.2.2.2.1 bt277.2.2.2.2.2.2.2.1 bt277.2.2.2.2.2.2.2.2.1 bt277.2.2.2.2.2.2.2.2.2.1 bt277.2.2.2.2.2.2.2.2.2.2.1 bt277.2.2.2.2.2.2.2.2.2.2.2))))) else (corrallaw6_CsrReturns.j0 k a1 a2 a3 a4 true bt229.2.1 bt229.2.2.1 bt229.2.2.2.1 bt229.2.2.2.2.1 bt229.2.2.2.2.2.1 bt229.2.2.2.2.2.2.1 bt229.2.2.2.2.2.2.2.1 bt229.2.2.2.2.2.2.2.2.1 bt229.2.2.2.2.2.2.2.2.2.1 bt229.2.2.2.2.2.2.2.2.2.2.1 bt229.2.2.2.2.2.2.2.2.2.2.2))))) = some r := by rw [if_pos rfl] at H; exact H
    clear H
    have H := H1
    clear H1
    replace H := Option.bind_eq_some_iff.mp H
    obtain ⟨⟨t205, t206, t207, t208, t209, t210, t211, t212, t213, t214, t215⟩, A80, H⟩ := H
    replace H : ((csr_File_Set.f t205 t206 t207 t208 t209 t210 t211 t212 t213 t214 t215 772 8).bind fun bt217 => ((csr_File_Set.f bt217.2.1 bt217.2.2.1 bt217.2.2.2.1 bt217.2.2.2.2.1 bt217.2.2.2.2.2.1 bt217.2.2.2.2.2.2.1 bt217.2.2.2.2.2.2.2.1 bt217.2.2.2.2.2.2.2.2.1 bt217.2.2.2.2.2.2.2.2.2.1 bt217.2.2.2.2.2.2.2.2.2.2.1 bt217.2.2.2.2.2.2.2.2.2.2.2 768 (Go.bits .andNot .u32 a0 6144)).bind fun bt229 => (if a4 = true then ((csr_File_Return.f bt229.2.1 bt229.2.2.1 bt229.2.2.2.1 bt229.2.2.2.2.1 bt229.2.2.2.2.2.1 bt229.2.2.2.2.2.2.1 bt229.2.2.2.2.2.2.2.1 bt229.2.2.2.2.2.2.2.2.1 bt229.2.2.2.2.2.2.2.2.2.1 bt229.2.2.2.2.2.2.2.2.2.2.1 bt229.2.2.2.2.2.2.2.2.2.2.2).bind fun bt241 => ((csr_File_Trap.f bt241.2.1 bt241.2.2.1 bt241.2.2.2.1 bt241.2.2.2.2.1 bt241.2.2.2.2.2.1 bt241.2.2.2.2.2.2.1 bt241.2.2.2.2.2.2.2.1 bt241.2.2.2.2.2.2.2.2.1 bt241.2.2.2.2.2.2.2.2.2.1 bt241.2.2.2.2.2.2.2.2.2.2.1 bt241.2.2.2.2.2.2.2.2.2.2.2 0 0 0).bind fun bt253 => ((csr_File_Set.f bt253.2.1 bt253.2.2.1 bt253.2.2.2.1 bt253.2.2.2.2.1 bt253.2.2.2.2.2.1 bt253.2.2.2.2.2.2.1 bt253.2.2.2.2.2.2.2.1 bt253.2.2.2.2.2.2.2.2.1 bt253.2.2.2.2.2.2.2.2.2.1 bt253.2.2.2.2.2.2.2.2.2.2.1 bt253.2.2.2.2.2.2.2.2.2.2.2 768 (Go.bits .andNot .u32 a0 6144)).bind fun bt265 => ((csr_File_Return.f bt265.2.1 bt265.2.2.1 bt265.2.2.2.1 bt265.2.2.2.2.1 bt265.2.2.2.2.2.1 bt265.2.2.2.2.2.2.1 bt265.2.2.2.2.2.2.2.1 bt265.2.2.2.2.2.2.2.2.1 bt265.2.2.2.2.2.2.2.2.2.1 bt265.2.2.2.2.2.2.2.2.2.2.1 bt265.2.2.2.2.2.2.2.2.2.2.2).bind fun bt277 => (corrallaw6_CsrReturns.j0 k a1 a2 a3 a4 true bt277.2.1 bt277.2.2.1 bt277.2.2.2.1 bt277.2.2.2.2.1 bt277.2.2.2.2.2.1 bt277.2.2.2.2.2.2.1 bt277.2.2.2.2.2.2.2.1 bt277.2.2.2.2.2.2.2.2.1 bt277.2.2.2.2.2.2.2.2.2.1 bt277.2.2.2.2.2.2.2.2.2.2.1 bt277.2.2.2.2.2.2.2.2.2.2.2))))) else (corrallaw6_CsrReturns.j0 k a1 a2 a3 a4 true bt229.2.1 bt229.2.2.1 bt229.2.2.2.1 bt229.2.2.2.2.1 bt229.2.2.2.2.2.1 bt229.2.2.2.2.2.2.1 bt229.2.2.2.2.2.2.2.1 bt229.2.2.2.2.2.2.2.2.1 bt229.2.2.2.2.2.2.2.2.2.1 bt229.2.2.2.2.2.2.2.2.2.2.1 bt229.2.2.2.2.2.2.2.2.2.2.2)))) = some r := H
    have A8 := Aside0.mk A80
    clear A80
    replace H := Option.bind_eq_some_iff.mp H
    obtain ⟨⟨t217, t218, t219, t220, t221, t222, t223, t224, t225, t226, t227, t228⟩, A90, H⟩ := H
    replace H : ((csr_File_Set.f t218 t219 t220 t221 t222 t223 t224 t225 t226 t227 t228 768 (Go.bits .andNot .u32 a0 6144)).bind fun bt229 => (if a4 = true then ((csr_File_Return.f bt229.2.1 bt229.2.2.1 bt229.2.2.2.1 bt229.2.2.2.2.1 bt229.2.2.2.2.2.1 bt229.2.2.2.2.2.2.1 bt229.2.2.2.2.2.2.2.1 bt229.2.2.2.2.2.2.2.2.1 bt229.2.2.2.2.2.2.2.2.2.1 bt229.2.2.2.2.2.2.2.2.2.2.1 bt229.2.2.2.2.2.2.2.2.2.2.2).bind fun bt241 => ((csr_File_Trap.f bt241.2.1 bt241.2.2.1 bt241.2.2.2.1 bt241.2.2.2.2.1 bt241.2.2.2.2.2.1 bt241.2.2.2.2.2.2.1 bt241.2.2.2.2.2.2.2.1 bt241.2.2.2.2.2.2.2.2.1 bt241.2.2.2.2.2.2.2.2.2.1 bt241.2.2.2.2.2.2.2.2.2.2.1 bt241.2.2.2.2.2.2.2.2.2.2.2 0 0 0).bind fun bt253 => ((csr_File_Set.f bt253.2.1 bt253.2.2.1 bt253.2.2.2.1 bt253.2.2.2.2.1 bt253.2.2.2.2.2.1 bt253.2.2.2.2.2.2.1 bt253.2.2.2.2.2.2.2.1 bt253.2.2.2.2.2.2.2.2.1 bt253.2.2.2.2.2.2.2.2.2.1 bt253.2.2.2.2.2.2.2.2.2.2.1 bt253.2.2.2.2.2.2.2.2.2.2.2 768 (Go.bits .andNot .u32 a0 6144)).bind fun bt265 => ((csr_File_Return.f bt265.2.1 bt265.2.2.1 bt265.2.2.2.1 bt265.2.2.2.2.1 bt265.2.2.2.2.2.1 bt265.2.2.2.2.2.2.1 bt265.2.2.2.2.2.2.2.1 bt265.2.2.2.2.2.2.2.2.1 bt265.2.2.2.2.2.2.2.2.2.1 bt265.2.2.2.2.2.2.2.2.2.2.1 bt265.2.2.2.2.2.2.2.2.2.2.2).bind fun bt277 => (corrallaw6_CsrReturns.j0 k a1 a2 a3 a4 true bt277.2.1 bt277.2.2.1 bt277.2.2.2.1 bt277.2.2.2.2.1 bt277.2.2.2.2.2.1 bt277.2.2.2.2.2.2.1 bt277.2.2.2.2.2.2.2.1 bt277.2.2.2.2.2.2.2.2.1 bt277.2.2.2.2.2.2.2.2.2.1 bt277.2.2.2.2.2.2.2.2.2.2.1 bt277.2.2.2.2.2.2.2.2.2.2.2))))) else (corrallaw6_CsrReturns.j0 k a1 a2 a3 a4 true bt229.2.1 bt229.2.2.1 bt229.2.2.2.1 bt229.2.2.2.2.1 bt229.2.2.2.2.2.1 bt229.2.2.2.2.2.2.1 bt229.2.2.2.2.2.2.2.1 bt229.2.2.2.2.2.2.2.2.1 bt229.2.2.2.2.2.2.2.2.2.1 bt229.2.2.2.2.2.2.2.2.2.2.1 bt229.2.2.2.2.2.2.2.2.2.2.2))) = some r := H
    have A9 := Aside0.mk A90
    clear A90
    replace H := Option.bind_eq_some_iff.mp H
    obtain ⟨⟨t229, t230, t231, t232, t233, t234, t235, t236, t237, t238, t239, t240⟩, A100, H⟩ := H
    replace H : (if a4 = true then ((csr_File_Return.f t230 t231 t232 t233 t234 t235 t236 t237 t238 t239 t240).bind fun bt241 => ((csr_File_Trap.f bt241.2.1 bt241.2.2.1 bt241.2.2.2.1 bt241.2.2.2.2.1 bt241.2.2.2.2.2.1 bt241.2.2.2.2.2.2.1 bt241.2.2.2.2.2.2.2.1 bt241.2.2.2.2.2.2.2.2.1 bt241.2.2.2.2.2.2.2.2.2.1 bt241.2.2.2.2.2.2.2.2.2.2.1 bt241.2.2.2.2.2.2.2.2.2.2.2 0 0 0).bind fun bt253 => ((csr_File_Set.f bt253.2.1 bt253.2.2.1 bt253.2.2.2.1 bt253.2.2.2.2.1 bt253.2.2.2.2.2.1 bt253.2.2.2.2.2.2.1 bt253.2.2.2.2.2.2.2.1 bt253.2.2.2.2.2.2.2.2.1 bt253.2.2.2.2.2.2.2.2.2.1 bt253.2.2.2.2.2.2.2.2.2.2.1 bt253.2.2.2.2.2.2.2.2.2.2.2 768 (Go.bits .andNot .u32 a0 6144)).bind fun bt265 => ((csr_File_Return.f bt265.2.1 bt265.2.2.1 bt265.2.2.2.1 bt265.2.2.2.2.1 bt265.2.2.2.2.2.1 bt265.2.2.2.2.2.2.1 bt265.2.2.2.2.2.2.2.1 bt265.2.2.2.2.2.2.2.2.1 bt265.2.2.2.2.2.2.2.2.2.1 bt265.2.2.2.2.2.2.2.2.2.2.1 bt265.2.2.2.2.2.2.2.2.2.2.2).bind fun bt277 => (corrallaw6_CsrReturns.j0 k a1 a2 a3 a4 true bt277.2.1 bt277.2.2.1 bt277.2.2.2.1 bt277.2.2.2.2.1 bt277.2.2.2.2.2.1 bt277.2.2.2.2.2.2.1 bt277.2.2.2.2.2.2.2.1 bt277.2.2.2.2.2.2.2.2.1 bt277.2.2.2.2.2.2.2.2.2.1 bt277.2.2.2.2.2.2.2.2.2.2.1 bt277.2.2.2.2.2.2.2.2.2.2.2))))) else (corrallaw6_CsrReturns.j0 k a1 a2 a3 a4 true t230 t231 t232 t233 t234 t235 t236 t237 t238 t239 t240)) = some r := H
    have A10 := Aside0.mk A100
    clear A100
    have HC11 := Aside0.mk H
    clear H
    go_enter Try.func10, Try.ntmps10
    go_upto_if 31 with (first | ((with_reducible refine gate_callee (f := 20) rfl ?_); refine goesL_ (some 23) rfl rfl Try.func20 (by kernel_rfl) rfl #[] rfl (by (try simp only [List.map_toArray, List.map_cons, List.map_nil]); first | done | rfl | (simp only [List.length_drop, List.length_take]; rfl)) ?_; (with_reducible refine (corrallaw6_first.calls  true _ A6.out).mono ?_); rintro e w12 ⟨rfl, hb⟩; refine ⟨_, rfl, ?_⟩; have n0_ := Aside0.mk (below_step (by repeat (first | (with_reducible first | exact HB.out | apply below_alloc | apply pw_below_drewN | apply below_drew1) | exact HB.out)) hb); clear HB; have HB := n0_; clear n0_; (try clear hb); (try clear hb2); (try clear hk); (try clear hi)) | ((with_reducible refine gate_callee (f := 21) rfl ?_); refine goesL_ (some 26) rfl rfl Try.func21 (by kernel_rfl) rfl #[.int .i64 0] rfl (by (try simp only [List.map_toArray, List.map_cons, List.map_nil]); first | done | rfl | (simp only [List.length_drop, List.length_take]; rfl)) ?_; (with_reducible refine (csr_New.calls 0 t205 t206 t207 t208 t209 t210 t211 t212 t213 t214 t215 _ A8.out).mono ?_); rintro e w13 ⟨rfl, hb⟩; refine ⟨_, rfl, ?_⟩; have n0_ := Aside0.mk (below_step (by repeat (first | (with_reducible first | exact HB.out | apply below_alloc | apply pw_below_drewN | apply below_drew1) | exact HB.out)) hb); clear HB; have HB := n0_; clear n0_; (try clear hb); (try clear hb2); (try clear hk); (try clear hi)) | ((with_reducible refine gate_dst (N := 12) rfl ?_); refine box_event ?hg (N := 12) ?hd (cs := #[.bool false, .int .u32 0, .int .u32 0, .int .u32 0, .int .u32 0, .int .u32 0, .int .u32 0, .int .u32 0, .int .u32 0, .int .u32 0, .int .u32 0]) (t := 38) ?hr ?_; (case hd => rfl); (case hg => rfl); (case hr => first | (go_simp; done) | (go_simp; rfl)); intro gb216 hg w14 hbox hb; have n0_ := Aside0.mk (below_step (by repeat (first | (with_reducible first | exact HB.out | apply below_alloc | apply pw_below_drewN | apply below_drew1) | exact HB.out)) hb); have n1_ := Aside0.mk (hbox); have n2_ := Aside0.mk ((by rw [hg]; exact (below_size (by repeat (first | (with_reducible first | exact HB.out | apply below_alloc | apply pw_below_drewN | apply below_drew1) | exact HB.out))) : w.heap.size ≤ gb216)); have n3_ := Aside0.mk ((by rw [hg]; exact (below_size (by repeat (first | (with_reducible first | exact HB.out | apply below_alloc | apply pw_below_drewN | apply below_drew1) | exact HB.out))) : w.heap.size ≤ gb216)); clear HB; have HB := n0_; have BK216 := n1_; have GW216 := n2_; have GE216 := n3_; clear n0_ n1_ n2_ n3_; clear hb hbox hg; have hcz15_0 : w14.cell? ⟨gb216, 0, none⟩ = some (.bool false) := (blk_cell BK216.out 0).trans rfl; have hcz15_1 : w14.cell? ⟨gb216, 1, none⟩ = some (.int .u32 0) := (blk_cell BK216.out 1).trans rfl; have hcz15_2 : w14.cell? ⟨gb216, 2, none⟩ = some (.int .u32 0) := (blk_cell BK216.out 2).trans rfl; have hcz15_3 : w14.cell? ⟨gb216, 3, none⟩ = some (.int .u32 0) := (blk_cell BK216.out 3).trans rfl; have hcz15_4 : w14.cell? ⟨gb216, 4, none⟩ = some (.int .u32 0) := (blk_cell BK216.out 4).trans rfl; have hcz15_5 : w14.cell? ⟨gb216, 5, none⟩ = some (.int .u32 0) := (blk_cell BK216.out 5).trans rfl; have hcz15_6 : w14.cell? ⟨gb216, 6, none⟩ = some (.int .u32 0) := (blk_cell BK216.out 6).trans rfl; have hcz15_7 : w14.cell? ⟨gb216, 7, none⟩ = some (.int .u32 0) := (blk_cell BK216.out 7).trans rfl; have hcz15_8 : w14.cell? ⟨gb216, 8, none⟩ = some (.int .u32 0) := (blk_cell BK216.out 8).trans rfl; have hcz15_9 : w14.cell? ⟨gb216, 9, none⟩ = some (.int .u32 0) := (blk_cell BK216.out 9).trans rfl; have hcz15_10 : w14.cell? ⟨gb216, 10, none⟩ = some (.int .u32 0) := (blk_cell BK216.out 10).trans rfl; have hfz15_0 := blk_frozen BK216.out 0; have hfz15_1 := blk_frozen BK216.out 1; have hfz15_2 := blk_frozen BK216.out 2; have hfz15_3 := blk_frozen BK216.out 3; have hfz15_4 := blk_frozen BK216.out 4; have hfz15_5 := blk_frozen BK216.out 5; have hfz15_6 := blk_frozen BK216.out 6; have hfz15_7 := blk_frozen BK216.out 7; have hfz15_8 := blk_frozen BK216.out 8; have hfz15_9 := blk_frozen BK216.out 9; have hfz15_10 := blk_frozen BK216.out 10) | ((with_reducible refine gate_callee (f := 22) rfl ?_); refine goesL_ (some 27) rfl rfl Try.func22 (by kernel_rfl) rfl #[.pointer (some ⟨gb216, 0, none⟩), .int .i64 772, .int .u32 8] rfl (by (try simp only [List.map_toArray, List.map_cons, List.map_nil]); first | done | rfl | (simp only [List.length_drop, List.length_take]; rfl)) ?_; (with_reducible refine (csr_File_Set.calls gb216 t205 t206 t207 t208 t209 t210 t211 t212 t213 t214 t215 772 8 t217 t218 t219 t220 t221 t222 t223 t224 t225 t226 t227 t228 w _ ?side1 ?side2 A9.out).mono ?_); (case side1 => exact And.intro (by (with_reducible repeat (first | refine blk_drewN ?_ _ | refine blk_drew ?_ | refine blk_alloc ?_ _)); refine blk_put (cs := #[.bool t205, .int .u32 t206, .int .u32 t207, .int .u32 t208, .int .u32 t209, .int .u32 t210, .int .u32 t211, .int .u32 t212, .int .u32 t213, .int .u32 t214, .int .u32 0]) ?_ 10 _ rfl; (with_reducible repeat (first | refine blk_drewN ?_ _ | refine blk_drew ?_ | refine blk_alloc ?_ _)); refine blk_put (cs := #[.bool t205, .int .u32 t206, .int .u32 t207, .int .u32 t208, .int .u32 t209, .int .u32 t210, .int .u32 t211, .int .u32 t212, .int .u32 t213, .int .u32 0, .int .u32 0]) ?_ 9 _ rfl; (with_reducible repeat (first | refine blk_drewN ?_ _ | refine blk_drew ?_ | refine blk_alloc ?_ _)); refine blk_put (cs := #[.bool t205, .int .u32 t206, .int .u32 t207, .int .u32 t208, .int .u32 t209, .int .u32 t210, .int .u32 t211, .int .u32 t212, .int .u32 0, .int .u32 0, .int .u32 0]) ?_ 8 _ rfl; (with_reducible repeat (first | refine blk_drewN ?_ _ | refine blk_drew ?_ | refine blk_alloc ?_ _)); refine blk_put (cs := #[.bool t205, .int .u32 t206, .int .u32 t207, .int .u32 t208, .int .u32 t209, .int .u32 t210, .int .u32 t211, .int .u32 0, .int .u32 0, .int .u32 0, .int .u32 0]) ?_ 7 _ rfl; (with_reducible repeat (first | refine blk_drewN ?_ _ | refine blk_drew ?_ | refine blk_alloc ?_ _)); refine blk_put (cs := #[.bool t205, .int .u32 t206, .int .u32 t207, .int .u32 t208, .int .u32 t209, .int .u32 t210, .int .u32 0, .int .u32 0, .int .u32 0, .int .u32 0, .int .u32 0]) ?_ 6 _ rfl; (with_reducible repeat (first | refine blk_drewN ?_ _ | refine blk_drew ?_ | refine blk_alloc ?_ _)); refine blk_put (cs := #[.bool t205, .int .u32 t206, .int .u32 t207, .int .u32 t208, .int .u32 t209, .int .u32 0, .int .u32 0, .int .u32 0, .int .u32 0, .int .u32 0, .int .u32 0]) ?_ 5 _ rfl; (with_reducible repeat (first | refine blk_drewN ?_ _ | refine blk_drew ?_ | refine blk_alloc ?_ _)); refine blk_put (cs := #[.bool t205, .int .u32 t206, .int .u32 t207, .int .u32 t208, .int .u32 0, .int .u32 0, .int .u32 0, .int .u32 0, .int .u32 0, .int .u32 0, .int .u32 0]) ?_ 4 _ rfl; (with_reducible repeat (first | refine blk_drewN ?_ _ | refine blk_drew ?_ | refine blk_alloc ?_ _)); refine blk_put (cs := #[.bool t205, .int .u32 t206, .int .u32 t207, .int .u32 0, .int .u32 0, .int .u32 0, .int .u32 0, .int .u32 0, .int .u32 0, .int .u32 0, .int .u32 0]) ?_ 3 _ rfl; (with_reducible repeat (first | refine blk_drewN ?_ _ | refine blk_drew ?_ | refine blk_alloc ?_ _)); refine blk_put (cs := #[.bool t205, .int .u32 t206, .int .u32 0, .int .u32 0, .int .u32 0, .int .u32 0, .int .u32 0, .int .u32 0, .int .u32 0, .int .u32 0, .int .u32 0]) ?_ 2 _ rfl; (with_reducible repeat (first | refine blk_drewN ?_ _ | refine blk_drew ?_ | refine blk_alloc ?_ _)); refine blk_put (cs := #[.bool t205, .int .u32 0, .int .u32 0, .int .u32 0, .int .u32 0, .int .u32 0, .int .u32 0, .int .u32 0, .int .u32 0, .int .u32 0, .int .u32 0]) ?_ 1 _ rfl; (with_reducible repeat (first | refine blk_drewN ?_ _ | refine blk_drew ?_ | refine blk_alloc ?_ _)); refine blk_put (cs := #[.bool false, .int .u32 0, .int .u32 0, .int .u32 0, .int .u32 0, .int .u32 0, .int .u32 0, .int .u32 0, .int .u32 0, .int .u32 0, .int .u32 0]) ?_ 0 _ rfl; (with_reducible repeat (first | refine blk_drewN ?_ _ | refine blk_drew ?_ | refine blk_alloc ?_ _)); exact BK216.out) GW216.out); (case side2 => repeat (first | (with_reducible first | exact HB.out | apply below_alloc | apply pw_below_drewN | apply below_drew1 | refine below_set ?_ GE216.out) | exact HB.out)); rintro e w16 ⟨rfl, hi, hb, hk⟩; refine ⟨_, rfl, ?_⟩; have n0_ := Aside0.mk (hb); have n1_ := Aside0.mk ((And.left hi)); clear HB; clear BK216; have HB := n0_; have BK216 := n1_; clear n0_ n1_; (try clear hb); (try clear hb2); (try clear hk); (try clear hi)) | ((with_reducible refine gate_callee (f := 22) rfl ?_); refine goesL_ (some 30) rfl rfl Try.func22 (by kernel_rfl) rfl #[.pointer (some ⟨gb216, 0, none⟩), .int .i64 768, .int .u32 (Go.bits .andNot .u32 a0 6144)] rfl (by (try simp only [List.map_toArray, List.map_cons, List.map_nil]); first | done | rfl | (simp only [List.length_drop, List.length_take]; rfl)) ?_; (with_reducible refine (csr_File_Set.calls gb216 t218 t219 t220 t221 t222 t223 t224 t225 t226 t227 t228 768 (Go.bits .andNot .u32 a0 6144) t229 t230 t231 t232 t233 t234 t235 t236 t237 t238 t239 t240 w _ ?side1 ?side2 A10.out).mono ?_); (case side1 => exact And.intro (by (with_reducible repeat (first | refine blk_drewN ?_ _ | refine blk_drew ?_ | refine blk_alloc ?_ _)); exact BK216.out) GW216.out); (case side2 => repeat (first | (with_reducible first | exact HB.out | apply below_alloc | apply pw_below_drewN | apply below_drew1 | refine below_set ?_ GE216.out) | exact HB.out)); rintro e w17 ⟨rfl, hi, hb, hk⟩; refine ⟨_, rfl, ?_⟩; have n0_ := Aside0.mk (hb); have n1_ := Aside0.mk ((And.left hi)); clear HB; clear BK216; have HB := n0_; have BK216 := n1_; clear n0_ n1_; (try clear hb); (try clear hb2); (try clear hk); (try clear hi)))
    (try simp only [Act.put, List.setIfInBounds_toArray, List.set_cons_zero, List.set_cons_succ])
    go_cut [] (fun wc => ∃ (kq : Nat) (x217000_10 : Bool) (x217001_10 : Int) (x217002_10 : Int) (x217003_10 : Int) (x217004_10 : Int) (x217005_10 : Int) (x217006_10 : Int) (x217007_10 : Int) (x217008_10 : Int) (x217009_10 : Int) (x217010_10 : Int), Aside0 (corrallaw6_CsrReturns.j0 kq a1 a2 a3 a4 true x217000_10 x217001_10 x217002_10 x217003_10 x217004_10 x217005_10 x217006_10 x217007_10 x217008_10 x217009_10 x217010_10 = some r) ∧ Aside0 (kq ≤ k) ∧ Aside0 (wc.heap[gb216]? = some (.cells #[.bool x217000_10, .int .u32 x217001_10, .int .u32 x217002_10, .int .u32 x217003_10, .int .u32 x217004_10, .int .u32 x217005_10, .int .u32 x217006_10, .int .u32 x217007_10, .int .u32 x217008_10, .int .u32 x217009_10, .int .u32 x217010_10] 38 (0, 0))) ∧ Aside0 (Below w.heap.size w wc))
    case first =>
      have H := HC11.out
      clear HC11
      by_cases c18 : a4 = true
      · subst c18
        have H1 : ((csr_File_Return.f t230 t231 t232 t233 t234 t235 t236 t237 t238 t239 t240).bind fun bt241 => ((csr_File_Trap.f bt241.2.1 bt241.2.2.1 bt241.2.2.2.1 bt241.2.2.2.2.1 bt241.2.2.2.2.2.1 bt241.2.2.2.2.2.2.1 bt241.2.2.2.2.2.2.2.1 bt241.2.2.2.2.2.2.2.2.1 bt241.2.2.2.2.2.2.2.2.2.1 bt241.2.2.2.2.2.2.2.2.2.2.1 bt241.2.2.2.2.2.2.2.2.2.2.2 0 0 0).bind fun bt253 => ((csr_File_Set.f bt253.2.1 bt253.2.2.1 bt253.2.2.2.1 bt253.2.2.2.2.1 bt253.2.2.2.2.2.1 bt253.2.2.2.2.2.2.1 bt253.2.2.2.2.2.2.2.1 bt253.2.2.2.2.2.2.2.2.1 bt253.2.2.2.2.2.2.2.2.2.1 bt253.2.2.2.2.2.2.2.2.2.2.1 bt253.2.2.2.2.2.2.2.2.2.2.2 768 (Go.bits .andNot .u32 a0 6144)).bind fun bt265 => ((csr_File_Return.f bt265.2.1 bt265.2.2.1 bt265.2.2.2.1 bt265.2.2.2.2.1 bt265.2.2.2.2.2.1 bt265.2.2.2.2.2.2.1 bt265.2.2.2.2.2.2.2.1 bt265.2.2.2.2.2.2.2.2.1 bt265.2.2.2.2.2.2.2.2.2.1 bt265.2.2.2.2.2.2.2.2.2.2.1 bt265.2.2.2.2.2.2.2.2.2.2.2).bind fun bt277 => (corrallaw6_CsrReturns.j0 k a1 a2 a3 true true bt277.2.1 bt277.2.2.1 bt277.2.2.2.1 bt277.2.2.2.2.1 bt277.2.2.2.2.2.1 bt277.2.2.2.2.2.2.1 bt277.2.2.2.2.2.2.2.1 bt277.2.2.2.2.2.2.2.2.1 bt277.2.2.2.2.2.2.2.2.2.1 bt277.2.2.2.2.2.2.2.2.2.2.1 bt277.2.2.2.2.2.2.2.2.2.2.2))))) = some r := by rw [if_pos rfl] at H; exact H
        clear H
        have H := H1
        clear H1
        replace H := Option.bind_eq_some_iff.mp H
        obtain ⟨⟨t241, t242, t243, t244, t245, t246, t247, t248, t249, t250, t251, t252⟩, A190, H⟩ := H
        replace H : ((csr_File_Trap.f t242 t243 t244 t245 t246 t247 t248 t249 t250 t251 t252 0 0 0).bind fun bt253 => ((csr_File_Set.f bt253.2.1 bt253.2.2.1 bt253.2.2.2.1 bt253.2.2.2.2.1 bt253.2.2.2.2.2.1 bt253.2.2.2.2.2.2.1 bt253.2.2.2.2.2.2.2.1 bt253.2.2.2.2.2.2.2.2.1 bt253.2.2.2.2.2.2.2.2.2.1 bt253.2.2.2.2.2.2.2.2.2.2.1 bt253.2.2.2.2.2.2.2.2.2.2.2 768 (Go.bits .andNot .u32 a0 6144)).bind fun bt265 => ((csr_File_Return.f bt265.2.1 bt265.2.2.1 bt265.2.2.2.1 bt265.2.2.2.2.1 bt265.2.2.2.2.2.1 bt265.2.2.2.2.2.2.1 bt265.2.2.2.2.2.2.2.1 bt265.2.2.2.2.2.2.2.2.1 bt265.2.2.2.2.2.2.2.2.2.1 bt265.2.2.2.2.2.2.2.2.2.2.1 bt265.2.2.2.2.2.2.2.2.2.2.2).bind fun bt277 => (corrallaw6_CsrReturns.j0 k a1 a2 a3 true true bt277.2.1 bt277.2.2.1 bt277.2.2.2.1 bt277.2.2.2.2.1 bt277.2.2.2.2.2.1 bt277.2.2.2.2.2.2.1 bt277.2.2.2.2.2.2.2.1 bt277.2.2.2.2.2.2.2.2.1 bt277.2.2.2.2.2.2.2.2.2.1 bt277.2.2.2.2.2.2.2.2.2.2.1 bt277.2.2.2.2.2.2.2.2.2.2.2)))) = some r := H
        have A19 := Aside0.mk A190
        clear A190
        replace H := Option.bind_eq_some_iff.mp H
        obtain ⟨⟨t253, t254, t255, t256, t257, t258, t259, t260, t261, t262, t263, t264⟩, A200, H⟩ := H
        replace H : ((csr_File_Set.f t254 t255 t256 t257 t258 t259 t260 t261 t262 t263 t264 768 (Go.bits .andNot .u32 a0 6144)).bind fun bt265 => ((csr_File_Return.f bt265.2.1 bt265.2.2.1 bt265.2.2.2.1 bt265.2.2.2.2.1 bt265.2.2.2.2.2.1 bt265.2.2.2.2.2.2.1 bt265.2.2.2.2.2.2.2.1 bt265.2.2.2.2.2.2.2.2.1 bt265.2.2.2.2.2.2.2.2.2.1 bt265.2.2.2.2.2.2.2.2.2.2.1 bt265.2.2.2.2.2.2.2.2.2.2.2).bind fun bt277 => (corrallaw6_CsrReturns.j0 k a1 a2 a3 true true bt277.2.1 bt277.2.2.1 bt277.2.2.2.1 bt277.2.2.2.2.1 bt277.2.2.2.2.2.1 bt277.2.2.2.2.2.2.1 bt277.2.2.2.2.2.2.2.1 bt277.2.2.2.2.2.2.2.2.1 bt277.2.2.2.2.2.2.2.2.2.1 bt277.2.2.2.2.2.2.2.2.2.2.1 bt277.2.2.2.2.2.2.2.2.2.2.2))) = some r := H
        have A20 := Aside0.mk A200
        clear A200
        replace H := Option.bind_eq_some_iff.mp H
        obtain ⟨⟨t265, t266, t267, t268, t269, t270, t271, t272, t273, t274, t275, t276⟩, A210, H⟩ := H
        replace H : ((csr_File_Return.f t266 t267 t268 t269 t270 t271 t272 t273 t274 t275 t276).bind fun bt277 => (corrallaw6_CsrReturns.j0 k a1 a2 a3 true true bt277.2.1 bt277.2.2.1 bt277.2.2.2.1 bt277.2.2.2.2.1 bt277.2.2.2.2.2.1 bt277.2.2.2.2.2.2.1 bt277.2.2.2.2.2.2.2.1 bt277.2.2.2.2.2.2.2.2.1 bt277.2.2.2.2.2.2.2.2.2.1 bt277.2.2.2.2.2.2.2.2.2.2.1 bt277.2.2.2.2.2.2.2.2.2.2.2)) = some r := H
        have A21 := Aside0.mk A210
        clear A210
        replace H := Option.bind_eq_some_iff.mp H
        obtain ⟨⟨t277, t278, t279, t280, t281, t282, t283, t284, t285, t286, t287, t288⟩, A220, H⟩ := H
        replace H : (corrallaw6_CsrReturns.j0 k a1 a2 a3 true true t278 t279 t280 t281 t282 t283 t284 t285 t286 t287 t288) = some r := H
        have A22 := Aside0.mk A220
        clear A220
        have H' := Aside0.mk H
        clear H
        go_wp2_with (first | ((with_reducible refine gate_callee (f := 26) rfl ?_); refine goesL_ (some 32) rfl rfl Try.func26 (by kernel_rfl) rfl #[.pointer (some ⟨gb216, 0, none⟩)] rfl (by (try simp only [List.map_toArray, List.map_cons, List.map_nil]); first | done | rfl | (simp only [List.length_drop, List.length_take]; rfl)) ?_; (with_reducible refine (csr_File_Return.calls gb216 t230 t231 t232 t233 t234 t235 t236 t237 t238 t239 t240 t241 t242 t243 t244 t245 t246 t247 t248 t249 t250 t251 t252 w _ ?side1 ?side2 A19.out).mono ?_); (case side1 => exact And.intro (by (with_reducible repeat (first | refine blk_drewN ?_ _ | refine blk_drew ?_ | refine blk_alloc ?_ _)); exact BK216.out) GW216.out); (case side2 => repeat (first | (with_reducible first | exact HB.out | apply below_alloc | apply pw_below_drewN | apply below_drew1 | refine below_set ?_ GE216.out) | exact HB.out)); rintro e w23 ⟨rfl, hi, hb, hk⟩; refine ⟨_, rfl, ?_⟩; have n0_ := Aside0.mk (hb); have n1_ := Aside0.mk ((And.left hi)); clear HB; clear BK216; have HB := n0_; have BK216 := n1_; clear n0_ n1_; (try clear hb); (try clear hb2); (try clear hk); (try clear hi)) | ((with_reducible refine gate_callee (f := 28) rfl ?_); refine goesL_ (some 33) rfl rfl Try.func28 (by kernel_rfl) rfl #[.pointer (some ⟨gb216, 0, none⟩), .int .u32 0, .int .u32 0, .int .u32 0] rfl (by (try simp only [List.map_toArray, List.map_cons, List.map_nil]); first | done | rfl | (simp only [List.length_drop, List.length_take]; rfl)) ?_; (with_reducible refine (csr_File_Trap.calls gb216 t242 t243 t244 t245 t246 t247 t248 t249 t250 t251 t252 0 0 0 t253 t254 t255 t256 t257 t258 t259 t260 t261 t262 t263 t264 w _ ?side1 ?side2 A20.out).mono ?_); (case side1 => exact And.intro (by (with_reducible repeat (first | refine blk_drewN ?_ _ | refine blk_drew ?_ | refine blk_alloc ?_ _)); exact BK216.out) GW216.out); (case side2 => repeat (first | (with_reducible first | exact HB.out | apply below_alloc | apply pw_below_drewN | apply below_drew1 | refine below_set ?_ GE216.out) | exact HB.out)); rintro e w24 ⟨rfl, hi, hb, hk⟩; refine ⟨_, rfl, ?_⟩; have n0_ := Aside0.mk (hb); have n1_ := Aside0.mk ((And.left hi)); clear HB; clear BK216; have HB := n0_; have BK216 := n1_; clear n0_ n1_; (try clear hb); (try clear hb2); (try clear hk); (try clear hi)) | ((with_reducible refine gate_callee (f := 22) rfl ?_); refine goesL_ (some 36) rfl rfl Try.func22 (by kernel_rfl) rfl #[.pointer (some ⟨gb216, 0, none⟩), .int .i64 768, .int .u32 (Go.bits .andNot .u32 a0 6144)] rfl (by (try simp only [List.map_toArray, List.map_cons, List.map_nil]); first | done | rfl | (simp only [List.length_drop, List.length_take]; rfl)) ?_; (with_reducible refine (csr_File_Set.calls gb216 t254 t255 t256 t257 t258 t259 t260 t261 t262 t263 t264 768 (Go.bits .andNot .u32 a0 6144) t265 t266 t267 t268 t269 t270 t271 t272 t273 t274 t275 t276 w _ ?side1 ?side2 A21.out).mono ?_); (case side1 => exact And.intro (by (with_reducible repeat (first | refine blk_drewN ?_ _ | refine blk_drew ?_ | refine blk_alloc ?_ _)); exact BK216.out) GW216.out); (case side2 => repeat (first | (with_reducible first | exact HB.out | apply below_alloc | apply pw_below_drewN | apply below_drew1 | refine below_set ?_ GE216.out) | exact HB.out)); rintro e w25 ⟨rfl, hi, hb, hk⟩; refine ⟨_, rfl, ?_⟩; have n0_ := Aside0.mk (hb); have n1_ := Aside0.mk ((And.left hi)); clear HB; clear BK216; have HB := n0_; have BK216 := n1_; clear n0_ n1_; (try clear hb); (try clear hb2); (try clear hk); (try clear hi)) | ((with_reducible refine gate_callee (f := 26) rfl ?_); refine goesL_ (some 37) rfl rfl Try.func26 (by kernel_rfl) rfl #[.pointer (some ⟨gb216, 0, none⟩)] rfl (by (try simp only [List.map_toArray, List.map_cons, List.map_nil]); first | done | rfl | (simp only [List.length_drop, List.length_take]; rfl)) ?_; (with_reducible refine (csr_File_Return.calls gb216 t266 t267 t268 t269 t270 t271 t272 t273 t274 t275 t276 t277 t278 t279 t280 t281 t282 t283 t284 t285 t286 t287 t288 w _ ?side1 ?side2 A22.out).mono ?_); (case side1 => exact And.intro (by (with_reducible repeat (first | refine blk_drewN ?_ _ | refine blk_drew ?_ | refine blk_alloc ?_ _)); exact BK216.out) GW216.out); (case side2 => repeat (first | (with_reducible first | exact HB.out | apply below_alloc | apply pw_below_drewN | apply below_drew1 | refine below_set ?_ GE216.out) | exact HB.out)); rintro e w26 ⟨rfl, hi, hb, hk⟩; refine ⟨_, rfl, ?_⟩; have n0_ := Aside0.mk (hb); have n1_ := Aside0.mk ((And.left hi)); clear HB; clear BK216; have HB := n0_; have BK216 := n1_; clear n0_ n1_; (try clear hb); (try clear hb2); (try clear hk); (try clear hi)))
        go_meet
        case rel => exact ⟨_, (t278), (t279), (t280), (t281), (t282), (t283), (t284), (t285), (t286), (t287), (t288), H', ⟨by first | omega | exact Nat.le_refl _⟩, ⟨by (with_reducible repeat (first | refine blk_drewN ?_ _ | refine blk_drew ?_ | refine blk_alloc ?_ _)); exact BK216.out⟩, ⟨by repeat (first | (with_reducible first | exact HB.out | apply below_alloc | apply pw_below_drewN | apply below_drew1 | refine below_set ?_ GE216.out) | exact HB.out)⟩⟩
      · replace c18 := Bool.eq_false_iff.mpr c18
        subst c18
        have H1 : (corrallaw6_CsrReturns.j0 k a1 a2 a3 false true t230 t231 t232 t233 t234 t235 t236 t237 t238 t239 t240) = some r := by rw [if_neg (show ¬ (false = true) by decide)] at H; exact H
        clear H
        have H := H1
        clear H1
        have H' := Aside0.mk H
        clear H
        go_wp2
        go_meet
        case rel => exact ⟨_, (t230), (t231), (t232), (t233), (t234), (t235), (t236), (t237), (t238), (t239), (t240), H', ⟨by first | omega | exact Nat.le_refl _⟩, ⟨by (with_reducible repeat (first | refine blk_drewN ?_ _ | refine blk_drew ?_ | refine blk_alloc ?_ _)); exact BK216.out⟩, ⟨by repeat (first | (with_reducible first | exact HB.out | apply below_alloc | apply pw_below_drewN | apply below_drew1 | refine below_set ?_ GE216.out) | exact HB.out)⟩⟩
    case rest =>
      clear HC11
      try clear c1
      try clear c2
      try clear p2
      try clear c7
      try clear c10
      try clear c18
      try clear c20
      try clear c21
      try clear c22
      try clear c26
      try clear hcz15_0
      try clear hcz15_1
      try clear hcz15_10
      try clear hcz15_2
      try clear hcz15_3
      try clear hcz15_4
      try clear hcz15_5
      try clear hcz15_6
      try clear hcz15_7
      try clear hcz15_8
      try clear hcz15_9
      try clear hfz15_0
      try clear hfz15_1
      try clear hfz15_10
      try clear hfz15_2
      try clear hfz15_3
      try clear hfz15_4
      try clear hfz15_5
      try clear hfz15_6
      try clear hfz15_7
      try clear hfz15_8
      try clear hfz15_9
      obtain ⟨kq, x217000_10, x217001_10, x217002_10, x217003_10, x217004_10, x217005_10, x217006_10, x217007_10, x217008_10, x217009_10, x217010_10, HA, HJ10, BK216, HB⟩ := hcut
      cases kq with
      | zero => exact absurd HA.out (by simp [corrallaw6_CsrReturns.j0])
      | succ kj10 =>
        have H := HA.out
        clear HA
        simp only [corrallaw6_CsrReturns.j0] at H
        replace H := Option.bind_eq_some_iff.mp H
        obtain ⟨⟨t289, t290, t291, t292, t293, t294, t295, t296, t297, t298, t299, t300⟩, A270, H⟩ := H
        replace H : ((csr_File_Trap.f t290 t291 t292 t293 t294 t295 t296 t297 t298 t299 t300 a1 a2 a3).bind fun bt302 => ((csr_File_Get.f bt302.2.1 bt302.2.2.1 bt302.2.2.2.1 bt302.2.2.2.2.1 bt302.2.2.2.2.2.1 bt302.2.2.2.2.2.2.1 bt302.2.2.2.2.2.2.2.1 bt302.2.2.2.2.2.2.2.2.1 bt302.2.2.2.2.2.2.2.2.2.1 bt302.2.2.2.2.2.2.2.2.2.2.1 bt302.2.2.2.2.2.2.2.2.2.2.2 834).bind fun bt314 => ((csr_File_Get.f bt314.2.2.1 bt314.2.2.2.1 bt314.2.2.2.2.1 bt314.2.2.2.2.2.1 bt314.2.2.2.2.2.2.1 bt314.2.2.2.2.2.2.2.1 bt314.2.2.2.2.2.2.2.2.1 bt314.2.2.2.2.2.2.2.2.2.1 bt314.2.2.2.2.2.2.2.2.2.2.1 bt314.2.2.2.2.2.2.2.2.2.2.2.1 bt314.2.2.2.2.2.2.2.2.2.2.2.2 835).bind fun bt327 => ((csr_File_Mode.f bt327.2.2.1 bt327.2.2.2.1 bt327.2.2.2.2.1 bt327.2.2.2.2.2.1 bt327.2.2.2.2.2.2.1 bt327.2.2.2.2.2.2.2.1 bt327.2.2.2.2.2.2.2.2.1 bt327.2.2.2.2.2.2.2.2.2.1 bt327.2.2.2.2.2.2.2.2.2.2.1 bt327.2.2.2.2.2.2.2.2.2.2.2.1 bt327.2.2.2.2.2.2.2.2.2.2.2.2).bind fun bt340 => (if bt340.1 = 3 then (if bt314.1 = a1 then (if bt327.1 = a2 then ((csr_File_Return.f bt340.2.1 bt340.2.2.1 bt340.2.2.2.1 bt340.2.2.2.2.1 bt340.2.2.2.2.2.1 bt340.2.2.2.2.2.2.1 bt340.2.2.2.2.2.2.2.1 bt340.2.2.2.2.2.2.2.2.1 bt340.2.2.2.2.2.2.2.2.2.1 bt340.2.2.2.2.2.2.2.2.2.2.1 bt340.2.2.2.2.2.2.2.2.2.2.2).bind fun bt352 => (if bt352.1 = (Go.bits .andNot .u32 a3 3) then ((csr_File_Mode.f bt352.2.1 bt352.2.2.1 bt352.2.2.2.1 bt352.2.2.2.2.1 bt352.2.2.2.2.2.1 bt352.2.2.2.2.2.2.1 bt352.2.2.2.2.2.2.2.1 bt352.2.2.2.2.2.2.2.2.1 bt352.2.2.2.2.2.2.2.2.2.1 bt352.2.2.2.2.2.2.2.2.2.2.1 bt352.2.2.2.2.2.2.2.2.2.2.2).bind fun bt364 => (corrallaw6_CsrReturns.j1 kj10 a4 true t289 (bt364.1 != t289) bt364.2.1 bt364.2.2.1 bt364.2.2.2.1 bt364.2.2.2.2.1 bt364.2.2.2.2.2.1 bt364.2.2.2.2.2.2.1 bt364.2.2.2.2.2.2.2.1 bt364.2.2.2.2.2.2.2.2.1 bt364.2.2.2.2.2.2.2.2.2.1 bt364.2.2.2.2.2.2.2.2.2.2.1 bt364.2.2.2.2.2.2.2.2.2.2.2 t290 t291 t292 t293 t294 t295 t296 t297 t298 t299 t300)) else (corrallaw6_CsrReturns.j1 kj10 a4 true t289 true bt352.2.1 bt352.2.2.1 bt352.2.2.2.1 bt352.2.2.2.2.1 bt352.2.2.2.2.2.1 bt352.2.2.2.2.2.2.1 bt352.2.2.2.2.2.2.2.1 bt352.2.2.2.2.2.2.2.2.1 bt352.2.2.2.2.2.2.2.2.2.1 bt352.2.2.2.2.2.2.2.2.2.2.1 bt352.2.2.2.2.2.2.2.2.2.2.2 t290 t291 t292 t293 t294 t295 t296 t297 t298 t299 t300))) else (corrallaw6_CsrReturns.j1 kj10 a4 true t289 true bt340.2.1 bt340.2.2.1 bt340.2.2.2.1 bt340.2.2.2.2.1 bt340.2.2.2.2.2.1 bt340.2.2.2.2.2.2.1 bt340.2.2.2.2.2.2.2.1 bt340.2.2.2.2.2.2.2.2.1 bt340.2.2.2.2.2.2.2.2.2.1 bt340.2.2.2.2.2.2.2.2.2.2.1 bt340.2.2.2.2.2.2.2.2.2.2.2 t290 t291 t292 t293 t294 t295 t296 t297 t298 t299 t300)) else (corrallaw6_CsrReturns.j1 kj10 a4 true t289 true bt340.2.1 bt340.2.2.1 bt340.2.2.2.1 bt340.2.2.2.2.1 bt340.2.2.2.2.2.1 bt340.2.2.2.2.2.2.1 bt340.2.2.2.2.2.2.2.1 bt340.2.2.2.2.2.2.2.2.1 bt340.2.2.2.2.2.2.2.2.2.1 bt340.2.2.2.2.2.2.2.2.2.2.1 bt340.2.2.2.2.2.2.2.2.2.2.2 t290 t291 t292 t293 t294 t295 t296 t297 t298 t299 t300)) else (corrallaw6_CsrReturns.j1 kj10 a4 true t289 true bt340.2.1 bt340.2.2.1 bt340.2.2.2.1 bt340.2.2.2.2.1 bt340.2.2.2.2.2.1 bt340.2.2.2.2.2.2.1 bt340.2.2.2.2.2.2.2.1 bt340.2.2.2.2.2.2.2.2.1 bt340.2.2.2.2.2.2.2.2.2.1 bt340.2.2.2.2.2.2.2.2.2.2.1 bt340.2.2.2.2.2.2.2.2.2.2.2 t290 t291 t292 t293 t294 t295 t296 t297 t298 t299 t300)))))) = some r := H
        have A27 := Aside0.mk A270
        clear A270
        replace H := Option.bind_eq_some_iff.mp H
        obtain ⟨⟨t302, t303, t304, t305, t306, t307, t308, t309, t310, t311, t312, t313⟩, A280, H⟩ := H
        replace H : ((csr_File_Get.f t303 t304 t305 t306 t307 t308 t309 t310 t311 t312 t313 834).bind fun bt314 => ((csr_File_Get.f bt314.2.2.1 bt314.2.2.2.1 bt314.2.2.2.2.1 bt314.2.2.2.2.2.1 bt314.2.2.2.2.2.2.1 bt314.2.2.2.2.2.2.2.1 bt314.2.2.2.2.2.2.2.2.1 bt314.2.2.2.2.2.2.2.2.2.1 bt314.2.2.2.2.2.2.2.2.2.2.1 bt314.2.2.2.2.2.2.2.2.2.2.2.1 bt314.2.2.2.2.2.2.2.2.2.2.2.2 835).bind fun bt327 => ((csr_File_Mode.f bt327.2.2.1 bt327.2.2.2.1 bt327.2.2.2.2.1 bt327.2.2.2.2.2.1 bt327.2.2.2.2.2.2.1 bt327.2.2.2.2.2.2.2.1 bt327.2.2.2.2.2.2.2.2.1 bt327.2.2.2.2.2.2.2.2.2.1 bt327.2.2.2.2.2.2.2.2.2.2.1 bt327.2.2.2.2.2.2.2.2.2.2.2.1 bt327.2.2.2.2.2.2.2.2.2.2.2.2).bind fun bt340 => (if bt340.1 = 3 then (if bt314.1 = a1 then (if bt327.1 = a2 then ((csr_File_Return.f bt340.2.1 bt340.2.2.1 bt340.2.2.2.1 bt340.2.2.2.2.1 bt340.2.2.2.2.2.1 bt340.2.2.2.2.2.2.1 bt340.2.2.2.2.2.2.2.1 bt340.2.2.2.2.2.2.2.2.1 bt340.2.2.2.2.2.2.2.2.2.1 bt340.2.2.2.2.2.2.2.2.2.2.1 bt340.2.2.2.2.2.2.2.2.2.2.2).bind fun bt352 => (if bt352.1 = (Go.bits .andNot .u32 a3 3) then ((csr_File_Mode.f bt352.2.1 bt352.2.2.1 bt352.2.2.2.1 bt352.2.2.2.2.1 bt352.2.2.2.2.2.1 bt352.2.2.2.2.2.2.1 bt352.2.2.2.2.2.2.2.1 bt352.2.2.2.2.2.2.2.2.1 bt352.2.2.2.2.2.2.2.2.2.1 bt352.2.2.2.2.2.2.2.2.2.2.1 bt352.2.2.2.2.2.2.2.2.2.2.2).bind fun bt364 => (corrallaw6_CsrReturns.j1 kj10 a4 true t289 (bt364.1 != t289) bt364.2.1 bt364.2.2.1 bt364.2.2.2.1 bt364.2.2.2.2.1 bt364.2.2.2.2.2.1 bt364.2.2.2.2.2.2.1 bt364.2.2.2.2.2.2.2.1 bt364.2.2.2.2.2.2.2.2.1 bt364.2.2.2.2.2.2.2.2.2.1 bt364.2.2.2.2.2.2.2.2.2.2.1 bt364.2.2.2.2.2.2.2.2.2.2.2 t290 t291 t292 t293 t294 t295 t296 t297 t298 t299 t300)) else (corrallaw6_CsrReturns.j1 kj10 a4 true t289 true bt352.2.1 bt352.2.2.1 bt352.2.2.2.1 bt352.2.2.2.2.1 bt352.2.2.2.2.2.1 bt352.2.2.2.2.2.2.1 bt352.2.2.2.2.2.2.2.1 bt352.2.2.2.2.2.2.2.2.1 bt352.2.2.2.2.2.2.2.2.2.1 bt352.2.2.2.2.2.2.2.2.2.2.1 bt352.2.2.2.2.2.2.2.2.2.2.2 t290 t291 t292 t293 t294 t295 t296 t297 t298 t299 t300))) else (corrallaw6_CsrReturns.j1 kj10 a4 true t289 true bt340.2.1 bt340.2.2.1 bt340.2.2.2.1 bt340.2.2.2.2.1 bt340.2.2.2.2.2.1 bt340.2.2.2.2.2.2.1 bt340.2.2.2.2.2.2.2.1 bt340.2.2.2.2.2.2.2.2.1 bt340.2.2.2.2.2.2.2.2.2.1 bt340.2.2.2.2.2.2.2.2.2.2.1 bt340.2.2.2.2.2.2.2.2.2.2.2 t290 t291 t292 t293 t294 t295 t296 t297 t298 t299 t300)) else (corrallaw6_CsrReturns.j1 kj10 a4 true t289 true bt340.2.1 bt340.2.2.1 bt340.2.2.2.1 bt340.2.2.2.2.1 bt340.2.2.2.2.2.1 bt340.2.2.2.2.2.2.1 bt340.2.2.2.2.2.2.2.1 bt340.2.2.2.2.2.2.2.2.1 bt340.2.2.2.2.2.2.2.2.2.1 bt340.2.2.2.2.2.2.2.2.2.2.1 bt340.2.2.2.2.2.2.2.2.2.2.2 t290 t291 t292 t293 t294 t295 t296 t297 t298 t299 t300)) else (corrallaw6_CsrReturns.j1 kj10 a4 true t289 true bt340.2.1 bt340.2.2.1 bt340.2.2.2.1 bt340.2.2.2.2.1 bt340.2.2.2.2.2.1 bt340.2.2.2.2.2.2.1 bt340.2.2.2.2.2.2.2.1 bt340.2.2.2.2.2.2.2.2.1 bt340.2.2.2.2.2.2.2.2.2.1 bt340.2.2.2.2.2.2.2.2.2.2.1 bt340.2.2.2.2.2.2.2.2.2.2.2 t290 t291 t292 t293 t294 t295 t296 t297 t298 t299 t300))))) = some r := H
        have A28 := Aside0.mk A280
        clear A280
        replace H := Option.bind_eq_some_iff.mp H
        obtain ⟨⟨t314, t315, t316, t317, t318, t319, t320, t321, t322, t323, t324, t325, t326⟩, A290, H⟩ := H
        replace H : ((csr_File_Get.f t316 t317 t318 t319 t320 t321 t322 t323 t324 t325 t326 835).bind fun bt327 => ((csr_File_Mode.f bt327.2.2.1 bt327.2.2.2.1 bt327.2.2.2.2.1 bt327.2.2.2.2.2.1 bt327.2.2.2.2.2.2.1 bt327.2.2.2.2.2.2.2.1 bt327.2.2.2.2.2.2.2.2.1 bt327.2.2.2.2.2.2.2.2.2.1 bt327.2.2.2.2.2.2.2.2.2.2.1 bt327.2.2.2.2.2.2.2.2.2.2.2.1 bt327.2.2.2.2.2.2.2.2.2.2.2.2).bind fun bt340 => (if bt340.1 = 3 then (if t314 = a1 then (if bt327.1 = a2 then ((csr_File_Return.f bt340.2.1 bt340.2.2.1 bt340.2.2.2.1 bt340.2.2.2.2.1 bt340.2.2.2.2.2.1 bt340.2.2.2.2.2.2.1 bt340.2.2.2.2.2.2.2.1 bt340.2.2.2.2.2.2.2.2.1 bt340.2.2.2.2.2.2.2.2.2.1 bt340.2.2.2.2.2.2.2.2.2.2.1 bt340.2.2.2.2.2.2.2.2.2.2.2).bind fun bt352 => (if bt352.1 = (Go.bits .andNot .u32 a3 3) then ((csr_File_Mode.f bt352.2.1 bt352.2.2.1 bt352.2.2.2.1 bt352.2.2.2.2.1 bt352.2.2.2.2.2.1 bt352.2.2.2.2.2.2.1 bt352.2.2.2.2.2.2.2.1 bt352.2.2.2.2.2.2.2.2.1 bt352.2.2.2.2.2.2.2.2.2.1 bt352.2.2.2.2.2.2.2.2.2.2.1 bt352.2.2.2.2.2.2.2.2.2.2.2).bind fun bt364 => (corrallaw6_CsrReturns.j1 kj10 a4 true t289 (bt364.1 != t289) bt364.2.1 bt364.2.2.1 bt364.2.2.2.1 bt364.2.2.2.2.1 bt364.2.2.2.2.2.1 bt364.2.2.2.2.2.2.1 bt364.2.2.2.2.2.2.2.1 bt364.2.2.2.2.2.2.2.2.1 bt364.2.2.2.2.2.2.2.2.2.1 bt364.2.2.2.2.2.2.2.2.2.2.1 bt364.2.2.2.2.2.2.2.2.2.2.2 t290 t291 t292 t293 t294 t295 t296 t297 t298 t299 t300)) else (corrallaw6_CsrReturns.j1 kj10 a4 true t289 true bt352.2.1 bt352.2.2.1 bt352.2.2.2.1 bt352.2.2.2.2.1 bt352.2.2.2.2.2.1 bt352.2.2.2.2.2.2.1 bt352.2.2.2.2.2.2.2.1 bt352.2.2.2.2.2.2.2.2.1 bt352.2.2.2.2.2.2.2.2.2.1 bt352.2.2.2.2.2.2.2.2.2.2.1 bt352.2.2.2.2.2.2.2.2.2.2.2 t290 t291 t292 t293 t294 t295 t296 t297 t298 t299 t300))) else (corrallaw6_CsrReturns.j1 kj10 a4 true t289 true bt340.2.1 bt340.2.2.1 bt340.2.2.2.1 bt340.2.2.2.2.1 bt340.2.2.2.2.2.1 bt340.2.2.2.2.2.2.1 bt340.2.2.2.2.2.2.2.1 bt340.2.2.2.2.2.2.2.2.1 bt340.2.2.2.2.2.2.2.2.2.1 bt340.2.2.2.2.2.2.2.2.2.2.1 bt340.2.2.2.2.2.2.2.2.2.2.2 t290 t291 t292 t293 t294 t295 t296 t297 t298 t299 t300)) else (corrallaw6_CsrReturns.j1 kj10 a4 true t289 true bt340.2.1 bt340.2.2.1 bt340.2.2.2.1 bt340.2.2.2.2.1 bt340.2.2.2.2.2.1 bt340.2.2.2.2.2.2.1 bt340.2.2.2.2.2.2.2.1 bt340.2.2.2.2.2.2.2.2.1 bt340.2.2.2.2.2.2.2.2.2.1 bt340.2.2.2.2.2.2.2.2.2.2.1 bt340.2.2.2.2.2.2.2.2.2.2.2 t290 t291 t292 t293 t294 t295 t296 t297 t298 t299 t300)) else (corrallaw6_CsrReturns.j1 kj10 a4 true t289 true bt340.2.1 bt340.2.2.1 bt340.2.2.2.1 bt340.2.2.2.2.1 bt340.2.2.2.2.2.1 bt340.2.2.2.2.2.2.1 bt340.2.2.2.2.2.2.2.1 bt340.2.2.2.2.2.2.2.2.1 bt340.2.2.2.2.2.2.2.2.2.1 bt340.2.2.2.2.2.2.2.2.2.2.1 bt340.2.2.2.2.2.2.2.2.2.2.2 t290 t291 t292 t293 t294 t295 t296 t297 t298 t299 t300)))) = some r := H
        have A29 := Aside0.mk A290
        clear A290
        replace H := Option.bind_eq_some_iff.mp H
        obtain ⟨⟨t327, t328, t329, t330, t331, t332, t333, t334, t335, t336, t337, t338, t339⟩, A300, H⟩ := H
        replace H : ((csr_File_Mode.f t329 t330 t331 t332 t333 t334 t335 t336 t337 t338 t339).bind fun bt340 => (if bt340.1 = 3 then (if t314 = a1 then (if t327 = a2 then ((csr_File_Return.f bt340.2.1 bt340.2.2.1 bt340.2.2.2.1 bt340.2.2.2.2.1 bt340.2.2.2.2.2.1 bt340.2.2.2.2.2.2.1 bt340.2.2.2.2.2.2.2.1 bt340.2.2.2.2.2.2.2.2.1 bt340.2.2.2.2.2.2.2.2.2.1 bt340.2.2.2.2.2.2.2.2.2.2.1 bt340.2.2.2.2.2.2.2.2.2.2.2).bind fun bt352 => (if bt352.1 = (Go.bits .andNot .u32 a3 3) then ((csr_File_Mode.f bt352.2.1 bt352.2.2.1 bt352.2.2.2.1 bt352.2.2.2.2.1 bt352.2.2.2.2.2.1 bt352.2.2.2.2.2.2.1 bt352.2.2.2.2.2.2.2.1 bt352.2.2.2.2.2.2.2.2.1 bt352.2.2.2.2.2.2.2.2.2.1 bt352.2.2.2.2.2.2.2.2.2.2.1 bt352.2.2.2.2.2.2.2.2.2.2.2).bind fun bt364 => (corrallaw6_CsrReturns.j1 kj10 a4 true t289 (bt364.1 != t289) bt364.2.1 bt364.2.2.1 bt364.2.2.2.1 bt364.2.2.2.2.1 bt364.2.2.2.2.2.1 bt364.2.2.2.2.2.2.1 bt364.2.2.2.2.2.2.2.1 bt364.2.2.2.2.2.2.2.2.1 bt364.2.2.2.2.2.2.2.2.2.1 bt364.2.2.2.2.2.2.2.2.2.2.1 bt364.2.2.2.2.2.2.2.2.2.2.2 t290 t291 t292 t293 t294 t295 t296 t297 t298 t299 t300)) else (corrallaw6_CsrReturns.j1 kj10 a4 true t289 true bt352.2.1 bt352.2.2.1 bt352.2.2.2.1 bt352.2.2.2.2.1 bt352.2.2.2.2.2.1 bt352.2.2.2.2.2.2.1 bt352.2.2.2.2.2.2.2.1 bt352.2.2.2.2.2.2.2.2.1 bt352.2.2.2.2.2.2.2.2.2.1 bt352.2.2.2.2.2.2.2.2.2.2.1 bt352.2.2.2.2.2.2.2.2.2.2.2 t290 t291 t292 t293 t294 t295 t296 t297 t298 t299 t300))) else (corrallaw6_CsrReturns.j1 kj10 a4 true t289 true bt340.2.1 bt340.2.2.1 bt340.2.2.2.1 bt340.2.2.2.2.1 bt340.2.2.2.2.2.1 bt340.2.2.2.2.2.2.1 bt340.2.2.2.2.2.2.2.1 bt340.2.2.2.2.2.2.2.2.1 bt340.2.2.2.2.2.2.2.2.2.1 bt340.2.2.2.2.2.2.2.2.2.2.1 bt340.2.2.2.2.2.2.2.2.2.2.2 t290 t291 t292 t293 t294 t295 t296 t297 t298 t299 t300)) else (corrallaw6_CsrReturns.j1 kj10 a4 true t289 true bt340.2.1 bt340.2.2.1 bt340.2.2.2.1 bt340.2.2.2.2.1 bt340.2.2.2.2.2.1 bt340.2.2.2.2.2.2.1 bt340.2.2.2.2.2.2.2.1 bt340.2.2.2.2.2.2.2.2.1 bt340.2.2.2.2.2.2.2.2.2.1 bt340.2.2.2.2.2.2.2.2.2.2.1 bt340.2.2.2.2.2.2.2.2.2.2.2 t290 t291 t292 t293 t294 t295 t296 t297 t298 t299 t300)) else (corrallaw6_CsrReturns.j1 kj10 a4 true t289 true bt340.2.1 bt340.2.2.1 bt340.2.2.2.1 bt340.2.2.2.2.1 bt340.2.2.2.2.2.1 bt340.2.2.2.2.2.2.1 bt340.2.2.2.2.2.2.2.1 bt340.2.2.2.2.2.2.2.2.1 bt340.2.2.2.2.2.2.2.2.2.1 bt340.2.2.2.2.2.2.2.2.2.2.1 bt340.2.2.2.2.2.2.2.2.2.2.2 t290 t291 t292 t293 t294 t295 t296 t297 t298 t299 t300))) = some r := H
        have A30 := Aside0.mk A300
        clear A300
        have HC31 := Aside0.mk H
        clear H
        go_upto_region 17 with (first | ((with_reducible refine gate_callee (f := 27) rfl ?_); refine goesL_ (some 38) rfl rfl Try.func27 (by kernel_rfl) rfl #[.pointer (some ⟨gb216, 0, none⟩)] rfl (by (try simp only [List.map_toArray, List.map_cons, List.map_nil]); first | done | rfl | (simp only [List.length_drop, List.length_take]; rfl)) ?_; (with_reducible refine (csr_File_Mode.calls gb216 x217000_10 x217001_10 x217002_10 x217003_10 x217004_10 x217005_10 x217006_10 x217007_10 x217008_10 x217009_10 x217010_10 t289 t290 t291 t292 t293 t294 t295 t296 t297 t298 t299 t300 w _ ?side1 ?side2 A27.out).mono ?_); (case side1 => exact And.intro (by (with_reducible repeat (first | refine blk_drewN ?_ _ | refine blk_drew ?_ | refine blk_alloc ?_ _)); exact BK216.out) GW216.out); (case side2 => repeat (first | (with_reducible first | exact HB.out | apply below_alloc | apply pw_below_drewN | apply below_drew1 | refine below_set ?_ GE216.out) | exact HB.out)); rintro e w32 ⟨rfl, hi, hb, hk⟩; refine ⟨_, rfl, ?_⟩; have n0_ := Aside0.mk (hb); have n1_ := Aside0.mk ((And.left hi)); clear HB; clear BK216; have HB := n0_; have BK216 := n1_; clear n0_ n1_; (try clear hb); (try clear hb2); (try clear hk); (try clear hi); have hcz33_0 : w32.cell? ⟨gb216, 0, none⟩ = some (.bool t290) := (blk_cell BK216.out 0).trans rfl; have hcz33_1 : w32.cell? ⟨gb216, 1, none⟩ = some (.int .u32 t291) := (blk_cell BK216.out 1).trans rfl; have hcz33_2 : w32.cell? ⟨gb216, 2, none⟩ = some (.int .u32 t292) := (blk_cell BK216.out 2).trans rfl; have hcz33_3 : w32.cell? ⟨gb216, 3, none⟩ = some (.int .u32 t293) := (blk_cell BK216.out 3).trans rfl; have hcz33_4 : w32.cell? ⟨gb216, 4, none⟩ = some (.int .u32 t294) := (blk_cell BK216.out 4).trans rfl; have hcz33_5 : w32.cell? ⟨gb216, 5, none⟩ = some (.int .u32 t295) := (blk_cell BK216.out 5).trans rfl; have hcz33_6 : w32.cell? ⟨gb216, 6, none⟩ = some (.int .u32 t296) := (blk_cell BK216.out 6).trans rfl; have hcz33_7 : w32.cell? ⟨gb216, 7, none⟩ = some (.int .u32 t297) := (blk_cell BK216.out 7).trans rfl; have hcz33_8 : w32.cell? ⟨gb216, 8, none⟩ = some (.int .u32 t298) := (blk_cell BK216.out 8).trans rfl; have hcz33_9 : w32.cell? ⟨gb216, 9, none⟩ = some (.int .u32 t299) := (blk_cell BK216.out 9).trans rfl; have hcz33_10 : w32.cell? ⟨gb216, 10, none⟩ = some (.int .u32 t300) := (blk_cell BK216.out 10).trans rfl; have hfz33_0 := blk_frozen BK216.out 0; have hfz33_1 := blk_frozen BK216.out 1; have hfz33_2 := blk_frozen BK216.out 2; have hfz33_3 := blk_frozen BK216.out 3; have hfz33_4 := blk_frozen BK216.out 4; have hfz33_5 := blk_frozen BK216.out 5; have hfz33_6 := blk_frozen BK216.out 6; have hfz33_7 := blk_frozen BK216.out 7; have hfz33_8 := blk_frozen BK216.out 8; have hfz33_9 := blk_frozen BK216.out 9; have hfz33_10 := blk_frozen BK216.out 10) | ((with_reducible refine gate_dst (N := 14) rfl ?_); refine box_event ?hg (N := 14) ?hd (cs := #[.bool false, .int .u32 0, .int .u32 0, .int .u32 0, .int .u32 0, .int .u32 0, .int .u32 0, .int .u32 0, .int .u32 0, .int .u32 0, .int .u32 0]) (t := 38) ?hr ?_; (case hd => rfl); (case hg => rfl); (case hr => first | (go_simp; done) | (go_simp; rfl)); intro gb301 hg w34 hbox hb; have n0_ := Aside0.mk (blk_below (g := gb216) (o := .cells #[.bool t290, .int .u32 t291, .int .u32 t292, .int .u32 t293, .int .u32 t294, .int .u32 t295, .int .u32 t296, .int .u32 t297, .int .u32 t298, .int .u32 t299, .int .u32 t300] 38 (0, 0)) (by (with_reducible repeat (first | refine blk_drewN ?_ _ | refine blk_drew ?_ | refine blk_alloc ?_ _)); exact BK216.out) hb); have n1_ := Aside0.mk (below_step (by repeat (first | (with_reducible first | exact HB.out | apply below_alloc | apply pw_below_drewN | apply below_drew1 | refine below_set ?_ GE216.out) | exact HB.out)) hb); have n2_ := Aside0.mk (hbox); have n3_ := Aside0.mk ((by rw [hg]; exact (below_size (by repeat (first | (with_reducible first | exact HB.out | apply below_alloc | apply pw_below_drewN | apply below_drew1 | refine below_set ?_ GE216.out) | exact HB.out))) : w.heap.size ≤ gb301)); have n4_ := Aside0.mk ((by rw [hg]; exact (below_size (by repeat (first | (with_reducible first | exact HB.out | apply below_alloc | apply pw_below_drewN | apply below_drew1 | refine below_set ?_ GE216.out) | exact HB.out))) : w.heap.size ≤ gb301)); have n5_ := Aside0.mk ((by rw [hg]; exact Nat.ne_of_lt (blk_lt (g := gb216) (o := .cells #[.bool t290, .int .u32 t291, .int .u32 t292, .int .u32 t293, .int .u32 t294, .int .u32 t295, .int .u32 t296, .int .u32 t297, .int .u32 t298, .int .u32 t299, .int .u32 t300] 38 (0, 0)) (by (with_reducible repeat (first | refine blk_drewN ?_ _ | refine blk_drew ?_ | refine blk_alloc ?_ _)); exact BK216.out)) : gb216 ≠ gb301)); have n6_ := Aside0.mk ((by rw [hg]; exact Nat.ne_of_gt (blk_lt (g := gb216) (o := .cells #[.bool t290, .int .u32 t291, .int .u32 t292, .int .u32 t293, .int .u32 t294, .int .u32 t295, .int .u32 t296, .int .u32 t297, .int .u32 t298, .int .u32 t299, .int .u32 t300] 38 (0, 0)) (by (with_reducible repeat (first | refine blk_drewN ?_ _ | refine blk_drew ?_ | refine blk_alloc ?_ _)); exact BK216.out)) : gb301 ≠ gb216)); clear BK216; clear HB; have BK216 := n0_; have HB := n1_; have BK301 := n2_; have GW301 := n3_; have GE301 := n4_; have NB216_301 := n5_; have NB301_216 := n6_; clear n0_ n1_ n2_ n3_ n4_ n5_ n6_; clear hb hbox hg; have hnb35 := NB301_216.out; have hnc35 := NB216_301.out; have hcz36_0 : w34.cell? ⟨gb301, 0, none⟩ = some (.bool false) := (blk_cell BK301.out 0).trans rfl; have hcz36_1 : w34.cell? ⟨gb301, 1, none⟩ = some (.int .u32 0) := (blk_cell BK301.out 1).trans rfl; have hcz36_2 : w34.cell? ⟨gb301, 2, none⟩ = some (.int .u32 0) := (blk_cell BK301.out 2).trans rfl; have hcz36_3 : w34.cell? ⟨gb301, 3, none⟩ = some (.int .u32 0) := (blk_cell BK301.out 3).trans rfl; have hcz36_4 : w34.cell? ⟨gb301, 4, none⟩ = some (.int .u32 0) := (blk_cell BK301.out 4).trans rfl; have hcz36_5 : w34.cell? ⟨gb301, 5, none⟩ = some (.int .u32 0) := (blk_cell BK301.out 5).trans rfl; have hcz36_6 : w34.cell? ⟨gb301, 6, none⟩ = some (.int .u32 0) := (blk_cell BK301.out 6).trans rfl; have hcz36_7 : w34.cell? ⟨gb301, 7, none⟩ = some (.int .u32 0) := (blk_cell BK301.out 7).trans rfl; have hcz36_8 : w34.cell? ⟨gb301, 8, none⟩ = some (.int .u32 0) := (blk_cell BK301.out 8).trans rfl; have hcz36_9 : w34.cell? ⟨gb301, 9, none⟩ = some (.int .u32 0) := (blk_cell BK301.out 9).trans rfl; have hcz36_10 : w34.cell? ⟨gb301, 10, none⟩ = some (.int .u32 0) := (blk_cell BK301.out 10).trans rfl; have hfz36_0 := blk_frozen BK301.out 0; have hfz36_1 := blk_frozen BK301.out 1; have hfz36_2 := blk_frozen BK301.out 2; have hfz36_3 := blk_frozen BK301.out 3; have hfz36_4 := blk_frozen BK301.out 4; have hfz36_5 := blk_frozen BK301.out 5; have hfz36_6 := blk_frozen BK301.out 6; have hfz36_7 := blk_frozen BK301.out 7; have hfz36_8 := blk_frozen BK301.out 8; have hfz36_9 := blk_frozen BK301.out 9; have hfz36_10 := blk_frozen BK301.out 10) | ((with_reducible refine gate_callee (f := 28) rfl ?_); refine goesL_ (some 43) rfl rfl Try.func28 (by kernel_rfl) rfl #[.pointer (some ⟨gb216, 0, none⟩), .int .u32 a1, .int .u32 a2, .int .u32 a3] rfl (by (try simp only [List.map_toArray, List.map_cons, List.map_nil]); first | done | rfl | (simp only [List.length_drop, List.length_take]; rfl)) ?_; (with_reducible refine (csr_File_Trap.calls gb216 t290 t291 t292 t293 t294 t295 t296 t297 t298 t299 t300 a1 a2 a3 t302 t303 t304 t305 t306 t307 t308 t309 t310 t311 t312 t313 w _ ?side1 ?side2 A28.out).mono ?_); (case side1 => exact And.intro (by (with_reducible repeat (first | refine blk_drewN ?_ _ | refine blk_drew ?_ | refine blk_alloc ?_ _)); refine blk_far ?_ NB216_301.out _; (with_reducible repeat (first | refine blk_drewN ?_ _ | refine blk_drew ?_ | refine blk_alloc ?_ _)); refine blk_far ?_ NB216_301.out _; (with_reducible repeat (first | refine blk_drewN ?_ _ | refine blk_drew ?_ | refine blk_alloc ?_ _)); refine blk_far ?_ NB216_301.out _; (with_reducible repeat (first | refine blk_drewN ?_ _ | refine blk_drew ?_ | refine blk_alloc ?_ _)); refine blk_far ?_ NB216_301.out _; (with_reducible repeat (first | refine blk_drewN ?_ _ | refine blk_drew ?_ | refine blk_alloc ?_ _)); refine blk_far ?_ NB216_301.out _; (with_reducible repeat (first | refine blk_drewN ?_ _ | refine blk_drew ?_ | refine blk_alloc ?_ _)); refine blk_far ?_ NB216_301.out _; (with_reducible repeat (first | refine blk_drewN ?_ _ | refine blk_drew ?_ | refine blk_alloc ?_ _)); refine blk_far ?_ NB216_301.out _; (with_reducible repeat (first | refine blk_drewN ?_ _ | refine blk_drew ?_ | refine blk_alloc ?_ _)); refine blk_far ?_ NB216_301.out _; (with_reducible repeat (first | refine blk_drewN ?_ _ | refine blk_drew ?_ | refine blk_alloc ?_ _)); refine blk_far ?_ NB216_301.out _; (with_reducible repeat (first | refine blk_drewN ?_ _ | refine blk_drew ?_ | refine blk_alloc ?_ _)); refine blk_far ?_ NB216_301.out _; (with_reducible repeat (first | refine blk_drewN ?_ _ | refine blk_drew ?_ | refine blk_alloc ?_ _)); refine blk_far ?_ NB216_301.out _; (with_reducible repeat (first | refine blk_drewN ?_ _ | refine blk_drew ?_ | refine blk_alloc ?_ _)); exact BK216.out) GW216.out); (case side2 => repeat (first | (with_reducible first | exact HB.out | apply below_alloc | apply pw_below_drewN | apply below_drew1 | refine below_set ?_ GE216.out | refine below_set ?_ GE301.out) | exact HB.out)); rintro e w37 ⟨rfl, hi, hb, hk⟩; refine ⟨_, rfl, ?_⟩; have n0_ := Aside0.mk (KeepBut.blk hk (g' := gb301) (o := .cells #[.bool t290, .int .u32 t291, .int .u32 t292, .int .u32 t293, .int .u32 t294, .int .u32 t295, .int .u32 t296, .int .u32 t297, .int .u32 t298, .int .u32 t299, .int .u32 t300] 38 (0, 0)) (by (with_reducible repeat (first | refine blk_drewN ?_ _ | refine blk_drew ?_ | refine blk_alloc ?_ _)); refine blk_put (cs := #[.bool t290, .int .u32 t291, .int .u32 t292, .int .u32 t293, .int .u32 t294, .int .u32 t295, .int .u32 t296, .int .u32 t297, .int .u32 t298, .int .u32 t299, .int .u32 0]) ?_ 10 _ rfl; (with_reducible repeat (first | refine blk_drewN ?_ _ | refine blk_drew ?_ | refine blk_alloc ?_ _)); refine blk_put (cs := #[.bool t290, .int .u32 t291, .int .u32 t292, .int .u32 t293, .int .u32 t294, .int .u32 t295, .int .u32 t296, .int .u32 t297, .int .u32 t298, .int .u32 0, .int .u32 0]) ?_ 9 _ rfl; (with_reducible repeat (first | refine blk_drewN ?_ _ | refine blk_drew ?_ | refine blk_alloc ?_ _)); refine blk_put (cs := #[.bool t290, .int .u32 t291, .int .u32 t292, .int .u32 t293, .int .u32 t294, .int .u32 t295, .int .u32 t296, .int .u32 t297, .int .u32 0, .int .u32 0, .int .u32 0]) ?_ 8 _ rfl; (with_reducible repeat (first | refine blk_drewN ?_ _ | refine blk_drew ?_ | refine blk_alloc ?_ _)); refine blk_put (cs := #[.bool t290, .int .u32 t291, .int .u32 t292, .int .u32 t293, .int .u32 t294, .int .u32 t295, .int .u32 t296, .int .u32 0, .int .u32 0, .int .u32 0, .int .u32 0]) ?_ 7 _ rfl; (with_reducible repeat (first | refine blk_drewN ?_ _ | refine blk_drew ?_ | refine blk_alloc ?_ _)); refine blk_put (cs := #[.bool t290, .int .u32 t291, .int .u32 t292, .int .u32 t293, .int .u32 t294, .int .u32 t295, .int .u32 0, .int .u32 0, .int .u32 0, .int .u32 0, .int .u32 0]) ?_ 6 _ rfl; (with_reducible repeat (first | refine blk_drewN ?_ _ | refine blk_drew ?_ | refine blk_alloc ?_ _)); refine blk_put (cs := #[.bool t290, .int .u32 t291, .int .u32 t292, .int .u32 t293, .int .u32 t294, .int .u32 0, .int .u32 0, .int .u32 0, .int .u32 0, .int .u32 0, .int .u32 0]) ?_ 5 _ rfl; (with_reducible repeat (first | refine blk_drewN ?_ _ | refine blk_drew ?_ | refine blk_alloc ?_ _)); refine blk_put (cs := #[.bool t290, .int .u32 t291, .int .u32 t292, .int .u32 t293, .int .u32 0, .int .u32 0, .int .u32 0, .int .u32 0, .int .u32 0, .int .u32 0, .int .u32 0]) ?_ 4 _ rfl; (with_reducible repeat (first | refine blk_drewN ?_ _ | refine blk_drew ?_ | refine blk_alloc ?_ _)); refine blk_put (cs := #[.bool t290, .int .u32 t291, .int .u32 t292, .int .u32 0, .int .u32 0, .int .u32 0, .int .u32 0, .int .u32 0, .int .u32 0, .int .u32 0, .int .u32 0]) ?_ 3 _ rfl; (with_reducible repeat (first | refine blk_drewN ?_ _ | refine blk_drew ?_ | refine blk_alloc ?_ _)); refine blk_put (cs := #[.bool t290, .int .u32 t291, .int .u32 0, .int .u32 0, .int .u32 0, .int .u32 0, .int .u32 0, .int .u32 0, .int .u32 0, .int .u32 0, .int .u32 0]) ?_ 2 _ rfl; (with_reducible repeat (first | refine blk_drewN ?_ _ | refine blk_drew ?_ | refine blk_alloc ?_ _)); refine blk_put (cs := #[.bool t290, .int .u32 0, .int .u32 0, .int .u32 0, .int .u32 0, .int .u32 0, .int .u32 0, .int .u32 0, .int .u32 0, .int .u32 0, .int .u32 0]) ?_ 1 _ rfl; (with_reducible repeat (first | refine blk_drewN ?_ _ | refine blk_drew ?_ | refine blk_alloc ?_ _)); refine blk_put (cs := #[.bool false, .int .u32 0, .int .u32 0, .int .u32 0, .int .u32 0, .int .u32 0, .int .u32 0, .int .u32 0, .int .u32 0, .int .u32 0, .int .u32 0]) ?_ 0 _ rfl; (with_reducible repeat (first | refine blk_drewN ?_ _ | refine blk_drew ?_ | refine blk_alloc ?_ _)); exact BK301.out) NB301_216.out (by simp)); have n1_ := Aside0.mk (hb); have n2_ := Aside0.mk ((And.left hi)); clear BK301; clear HB; clear BK216; have BK301 := n0_; have HB := n1_; have BK216 := n2_; clear n0_ n1_ n2_; (try clear hb); (try clear hb2); (try clear hk); (try clear hi)) | ((with_reducible refine gate_callee (f := 23) rfl ?_); refine goesL_ (some 45) rfl rfl Try.func23 (by kernel_rfl) rfl #[.pointer (some ⟨gb216, 0, none⟩), .int .i64 834] rfl (by (try simp only [List.map_toArray, List.map_cons, List.map_nil]); first | done | rfl | (simp only [List.length_drop, List.length_take]; rfl)) ?_; (with_reducible refine (csr_File_Get.calls gb216 t303 t304 t305 t306 t307 t308 t309 t310 t311 t312 t313 834 t314 t315 t316 t317 t318 t319 t320 t321 t322 t323 t324 t325 t326 w _ ?side1 ?side2 A29.out).mono ?_); (case side1 => exact And.intro (by (with_reducible repeat (first | refine blk_drewN ?_ _ | refine blk_drew ?_ | refine blk_alloc ?_ _)); exact BK216.out) GW216.out); (case side2 => repeat (first | (with_reducible first | exact HB.out | apply below_alloc | apply pw_below_drewN | apply below_drew1 | refine below_set ?_ GE216.out | refine below_set ?_ GE301.out) | exact HB.out)); rintro e w38 ⟨rfl, hi, hb, hk⟩; refine ⟨_, rfl, ?_⟩; have n0_ := Aside0.mk (KeepBut.blk hk (g' := gb301) (o := .cells #[.bool t290, .int .u32 t291, .int .u32 t292, .int .u32 t293, .int .u32 t294, .int .u32 t295, .int .u32 t296, .int .u32 t297, .int .u32 t298, .int .u32 t299, .int .u32 t300] 38 (0, 0)) (by (with_reducible repeat (first | refine blk_drewN ?_ _ | refine blk_drew ?_ | refine blk_alloc ?_ _)); exact BK301.out) NB301_216.out (by simp)); have n1_ := Aside0.mk (hb); have n2_ := Aside0.mk ((And.left hi)); clear BK301; clear HB; clear BK216; have BK301 := n0_; have HB := n1_; have BK216 := n2_; clear n0_ n1_ n2_; (try clear hb); (try clear hb2); (try clear hk); (try clear hi)) | ((with_reducible refine gate_callee (f := 23) rfl ?_); refine goesL_ (some 49) rfl rfl Try.func23 (by kernel_rfl) rfl #[.pointer (some ⟨gb216, 0, none⟩), .int .i64 835] rfl (by (try simp only [List.map_toArray, List.map_cons, List.map_nil]); first | done | rfl | (simp only [List.length_drop, List.length_take]; rfl)) ?_; (with_reducible refine (csr_File_Get.calls gb216 t316 t317 t318 t319 t320 t321 t322 t323 t324 t325 t326 835 t327 t328 t329 t330 t331 t332 t333 t334 t335 t336 t337 t338 t339 w _ ?side1 ?side2 A30.out).mono ?_); (case side1 => exact And.intro (by (with_reducible repeat (first | refine blk_drewN ?_ _ | refine blk_drew ?_ | refine blk_alloc ?_ _)); exact BK216.out) GW216.out); (case side2 => repeat (first | (with_reducible first | exact HB.out | apply below_alloc | apply pw_below_drewN | apply below_drew1 | refine below_set ?_ GE216.out | refine below_set ?_ GE301.out) | exact HB.out)); rintro e w39 ⟨rfl, hi, hb, hk⟩; refine ⟨_, rfl, ?_⟩; have n0_ := Aside0.mk (KeepBut.blk hk (g' := gb301) (o := .cells #[.bool t290, .int .u32 t291, .int .u32 t292, .int .u32 t293, .int .u32 t294, .int .u32 t295, .int .u32 t296, .int .u32 t297, .int .u32 t298, .int .u32 t299, .int .u32 t300] 38 (0, 0)) (by (with_reducible repeat (first | refine blk_drewN ?_ _ | refine blk_drew ?_ | refine blk_alloc ?_ _)); exact BK301.out) NB301_216.out (by simp)); have n1_ := Aside0.mk (hb); have n2_ := Aside0.mk ((And.left hi)); clear BK301; clear HB; clear BK216; have BK301 := n0_; have HB := n1_; have BK216 := n2_; clear n0_ n1_ n2_; (try clear hb); (try clear hb2); (try clear hk); (try clear hi)))
        (try simp only [Act.put, List.setIfInBounds_toArray, List.set_cons_zero, List.set_cons_succ])
        go_cut [74] (fun v74 wc => ∃ (kq : Nat) (x74_30 : Bool) (x217000_30 : Bool) (x217001_30 : Int) (x217002_30 : Int) (x217003_30 : Int) (x217004_30 : Int) (x217005_30 : Int) (x217006_30 : Int) (x217007_30 : Int) (x217008_30 : Int) (x217009_30 : Int) (x217010_30 : Int), v74 = .bool x74_30 ∧ Aside0 (corrallaw6_CsrReturns.j1 kq a4 true t289 x74_30 x217000_30 x217001_30 x217002_30 x217003_30 x217004_30 x217005_30 x217006_30 x217007_30 x217008_30 x217009_30 x217010_30 t290 t291 t292 t293 t294 t295 t296 t297 t298 t299 t300 = some r) ∧ Aside0 (kq ≤ kj10) ∧ Aside0 (wc.heap[gb216]? = some (.cells #[.bool x217000_30, .int .u32 x217001_30, .int .u32 x217002_30, .int .u32 x217003_30, .int .u32 x217004_30, .int .u32 x217005_30, .int .u32 x217006_30, .int .u32 x217007_30, .int .u32 x217008_30, .int .u32 x217009_30, .int .u32 x217010_30] 38 (0, 0))) ∧ Aside0 (wc.heap[gb301]? = some (.cells #[.bool t290, .int .u32 t291, .int .u32 t292, .int .u32 t293, .int .u32 t294, .int .u32 t295, .int .u32 t296, .int .u32 t297, .int .u32 t298, .int .u32 t299, .int .u32 t300] 38 (0, 0))) ∧ Aside0 (Below w.heap.size w wc))
        case first =>
          have H := HC31.out
          clear HC31
          replace H := Option.bind_eq_some_iff.mp H
          obtain ⟨⟨t340, t341, t342, t343, t344, t345, t346, t347, t348, t349, t350, t351⟩, A400, H⟩ := H
          replace H : (if t340 = 3 then (if t314 = a1 then (if t327 = a2 then ((csr_File_Return.f t341 t342 t343 t344 t345 t346 t347 t348 t349 t350 t351).bind fun bt352 => (if bt352.1 = (Go.bits .andNot .u32 a3 3) then ((csr_File_Mode.f bt352.2.1 bt352.2.2.1 bt352.2.2.2.1 bt352.2.2.2.2.1 bt352.2.2.2.2.2.1 bt352.2.2.2.2.2.2.1 bt352.2.2.2.2.2.2.2.1 bt352.2.2.2.2.2.2.2.2.1 bt352.2.2.2.2.2.2.2.2.2.1 bt352.2.2.2.2.2.2.2.2.2.2.1 bt352.2.2.2.2.2.2.2.2.2.2.2).bind fun bt364 => (corrallaw6_CsrReturns.j1 kj10 a4 true t289 (bt364.1 != t289) bt364.2.1 bt364.2.2.1 bt364.2.2.2.1 bt364.2.2.2.2.1 bt364.2.2.2.2.2.1 bt364.2.2.2.2.2.2.1 bt364.2.2.2.2.2.2.2.1 bt364.2.2.2.2.2.2.2.2.1 bt364.2.2.2.2.2.2.2.2.2.1 bt364.2.2.2.2.2.2.2.2.2.2.1 bt364.2.2.2.2.2.2.2.2.2.2.2 t290 t291 t292 t293 t294 t295 t296 t297 t298 t299 t300)) else (corrallaw6_CsrReturns.j1 kj10 a4 true t289 true bt352.2.1 bt352.2.2.1 bt352.2.2.2.1 bt352.2.2.2.2.1 bt352.2.2.2.2.2.1 bt352.2.2.2.2.2.2.1 bt352.2.2.2.2.2.2.2.1 bt352.2.2.2.2.2.2.2.2.1 bt352.2.2.2.2.2.2.2.2.2.1 bt352.2.2.2.2.2.2.2.2.2.2.1 bt352.2.2.2.2.2.2.2.2.2.2.2 t290 t291 t292 t293 t294 t295 t296 t297 t298 t299 t300))) else (corrallaw6_CsrReturns.j1 kj10 a4 true t289 true t341 t342 t343 t344 t345 t346 t347 t348 t349 t350 t351 t290 t291 t292 t293 t294 t295 t296 t297 t298 t299 t300)) else (corrallaw6_CsrReturns.j1 kj10 a4 true t289 true t341 t342 t343 t344 t345 t346 t347 t348 t349 t350 t351 t290 t291 t292 t293 t294 t295 t296 t297 t298 t299 t300)) else (corrallaw6_CsrReturns.j1 kj10 a4 true t289 true t341 t342 t343 t344 t345 t346 t347 t348 t349 t350 t351 t290 t291 t292 t293 t294 t295 t296 t297 t298 t299 t300)) = some r := H
          have A40 := Aside0.mk A400
          clear A400
          by_cases c41 : t340 = 3
          · rw [if_pos c41] at H
            have c41b0 : (t340 == 3) = true := beq_iff_eq.mpr c41
            have c41b1 : (t340 != 3) = false := bne_eq_false_iff_eq.mpr c41
            clear c41
            (first | rw [c41b0] | (simp only [i64_w, i32_w]; rw [c41b0]) | skip)
            by_cases c42 : t314 = a1
            · rw [if_pos c42] at H
              have c42b0 : (t314 == a1) = true := beq_iff_eq.mpr c42
              have c42b1 : (t314 != a1) = false := bne_eq_false_iff_eq.mpr c42
              clear c42
              by_cases c43 : t327 = a2
              · rw [if_pos c43] at H
                have c43b0 : (t327 == a2) = true := beq_iff_eq.mpr c43
                have c43b1 : (t327 != a2) = false := bne_eq_false_iff_eq.mpr c43
                clear c43
                replace H := Option.bind_eq_some_iff.mp H
                obtain ⟨⟨t352, t353, t354, t355, t356, t357, t358, t359, t360, t361, t362, t363⟩, A440, H⟩ := H
                replace H : (if t352 = (Go.bits .andNot .u32 a3 3) then ((csr_File_Mode.f t353 t354 t355 t356 t357 t358 t359 t360 t361 t362 t363).bind fun bt364 => (corrallaw6_CsrReturns.j1 kj10 a4 true t289 (bt364.1 != t289) bt364.2.1 bt364.2.2.1 bt364.2.2.2.1 bt364.2.2.2.2.1 bt364.2.2.2.2.2.1 bt364.2.2.2.2.2.2.1 bt364.2.2.2.2.2.2.2.1 bt364.2.2.2.2.2.2.2.2.1 bt364.2.2.2.2.2.2.2.2.2.1 bt364.2.2.2.2.2.2.2.2.2.2.1 bt364.2.2.2.2.2.2.2.2.2.2.2 t290 t291 t292 t293 t294 t295 t296 t297 t298 t299 t300)) else (corrallaw6_CsrReturns.j1 kj10 a4 true t289 true t353 t354 t355 t356 t357 t358 t359 t360 t361 t362 t363 t290 t291 t292 t293 t294 t295 t296 t297 t298 t299 t300)) = some r := H
                have A44 := Aside0.mk A440
                clear A440
                by_cases c45 : t352 = (Go.bits .andNot .u32 a3 3)
                · rw [if_pos c45] at H
                  have c45b0 : (t352 == (Go.bits .andNot .u32 a3 3)) = true := beq_iff_eq.mpr c45
                  have c45b1 : (t352 != (Go.bits .andNot .u32 a3 3)) = false := bne_eq_false_iff_eq.mpr c45
                  clear c45
                  replace H := Option.bind_eq_some_iff.mp H
                  obtain ⟨⟨t364, t365, t366, t367, t368, t369, t370, t371, t372, t373, t374, t375⟩, A460, H⟩ := H
                  replace H : (corrallaw6_CsrReturns.j1 kj10 a4 true t289 (t364 != t289) t365 t366 t367 t368 t369 t370 t371 t372 t373 t374 t375 t290 t291 t292 t293 t294 t295 t296 t297 t298 t299 t300) = some r := H
                  have A46 := Aside0.mk A460
                  clear A460
                  have H' := Aside0.mk H
                  clear H
                  go_wp2_with (first | ((with_reducible refine gate_callee (f := 27) rfl ?_); refine goesL_ (some 52) rfl rfl Try.func27 (by kernel_rfl) rfl #[.pointer (some ⟨gb216, 0, none⟩)] rfl (by (try simp only [List.map_toArray, List.map_cons, List.map_nil]); first | done | rfl | (simp only [List.length_drop, List.length_take]; rfl)) ?_; (with_reducible refine (csr_File_Mode.calls gb216 t329 t330 t331 t332 t333 t334 t335 t336 t337 t338 t339 t340 t341 t342 t343 t344 t345 t346 t347 t348 t349 t350 t351 w _ ?side1 ?side2 A40.out).mono ?_); (case side1 => exact And.intro (by (with_reducible repeat (first | refine blk_drewN ?_ _ | refine blk_drew ?_ | refine blk_alloc ?_ _)); exact BK216.out) GW216.out); (case side2 => repeat (first | (with_reducible first | exact HB.out | apply below_alloc | apply pw_below_drewN | apply below_drew1 | refine below_set ?_ GE216.out | refine below_set ?_ GE301.out) | exact HB.out)); rintro e w47 ⟨rfl, hi, hb, hk⟩; refine ⟨_, rfl, ?_⟩; have n0_ := Aside0.mk (KeepBut.blk hk (g' := gb301) (o := .cells #[.bool t290, .int .u32 t291, .int .u32 t292, .int .u32 t293, .int .u32 t294, .int .u32 t295, .int .u32 t296, .int .u32 t297, .int .u32 t298, .int .u32 t299, .int .u32 t300] 38 (0, 0)) (by (with_reducible repeat (first | refine blk_drewN ?_ _ | refine blk_drew ?_ | refine blk_alloc ?_ _)); exact BK301.out) NB301_216.out (by simp)); have n1_ := Aside0.mk (hb); have n2_ := Aside0.mk ((And.left hi)); clear BK301; clear HB; clear BK216; have BK301 := n0_; have HB := n1_; have BK216 := n2_; clear n0_ n1_ n2_; (try clear hb); (try clear hb2); (try clear hk); (try clear hi)) | (go_at_call 26; (with_reducible refine (csr_File_Return.calls gb216 t341 t342 t343 t344 t345 t346 t347 t348 t349 t350 t351 t352 t353 t354 t355 t356 t357 t358 t359 t360 t361 t362 t363 w _ ?side1 ?side2 A44.out).mono ?_); (case side1 => exact And.intro (by (with_reducible repeat (first | refine blk_drewN ?_ _ | refine blk_drew ?_ | refine blk_alloc ?_ _)); exact BK216.out) GW216.out); (case side2 => repeat (first | (with_reducible first | exact HB.out | apply below_alloc | apply pw_below_drewN | apply below_drew1 | refine below_set ?_ GE216.out | refine below_set ?_ GE301.out) | exact HB.out)); rintro e w48 ⟨rfl, hi, hb, hk⟩; have n0_ := Aside0.mk (KeepBut.blk hk (g' := gb301) (o := .cells #[.bool t290, .int .u32 t291, .int .u32 t292, .int .u32 t293, .int .u32 t294, .int .u32 t295, .int .u32 t296, .int .u32 t297, .int .u32 t298, .int .u32 t299, .int .u32 t300] 38 (0, 0)) (by (with_reducible repeat (first | refine blk_drewN ?_ _ | refine blk_drew ?_ | refine blk_alloc ?_ _)); exact BK301.out) NB301_216.out (by simp)); have n1_ := Aside0.mk (hb); have n2_ := Aside0.mk ((And.left hi)); clear BK301; clear HB; clear BK216; have BK301 := n0_; have HB := n1_; have BK216 := n2_; clear n0_ n1_ n2_; (try clear hb); (try clear hb2); (try clear hk); (try clear hi)) | (go_at_call 27; (with_reducible refine (csr_File_Mode.calls gb216 t353 t354 t355 t356 t357 t358 t359 t360 t361 t362 t363 t364 t365 t366 t367 t368 t369 t370 t371 t372 t373 t374 t375 w _ ?side1 ?side2 A46.out).mono ?_); (case side1 => exact And.intro (by (with_reducible repeat (first | refine blk_drewN ?_ _ | refine blk_drew ?_ | refine blk_alloc ?_ _)); exact BK216.out) GW216.out); (case side2 => repeat (first | (with_reducible first | exact HB.out | apply below_alloc | apply pw_below_drewN | apply below_drew1 | refine below_set ?_ GE216.out | refine below_set ?_ GE301.out) | exact HB.out)); rintro e w49 ⟨rfl, hi, hb, hk⟩; have n0_ := Aside0.mk (KeepBut.blk hk (g' := gb301) (o := .cells #[.bool t290, .int .u32 t291, .int .u32 t292, .int .u32 t293, .int .u32 t294, .int .u32 t295, .int .u32 t296, .int .u32 t297, .int .u32 t298, .int .u32 t299, .int .u32 t300] 38 (0, 0)) (by (with_reducible repeat (first | refine blk_drewN ?_ _ | refine blk_drew ?_ | refine blk_alloc ?_ _)); exact BK301.out) NB301_216.out (by simp)); have n1_ := Aside0.mk (hb); have n2_ := Aside0.mk ((And.left hi)); clear BK301; clear HB; clear BK216; have BK301 := n0_; have HB := n1_; have BK216 := n2_; clear n0_ n1_ n2_; (try clear hb); (try clear hb2); (try clear hk); (try clear hi)))
                  go_meet
                  case rel => exact ⟨_, ((t364 != t289)), (t365), (t366), (t367), (t368), (t369), (t370), (t371), (t372), (t373), (t374), (t375), (by first | rfl | (simp; done) | (simp [*]; done)), H', ⟨by have := HJ10.out; first | omega | exact Nat.le_refl _⟩, ⟨by (with_reducible repeat (first | refine blk_drewN ?_ _ | refine blk_drew ?_ | refine blk_alloc ?_ _)); exact BK216.out⟩, ⟨by (with_reducible repeat (first | refine blk_drewN ?_ _ | refine blk_drew ?_ | refine blk_alloc ?_ _)); exact BK301.out⟩, ⟨by repeat (first | (with_reducible first | exact HB.out | apply below_alloc | apply pw_below_drewN | apply below_drew1 | refine below_set ?_ GE216.out | refine below_set ?_ GE301.out) | exact HB.out)⟩⟩
                · rw [if_neg c45] at H
                  have c45b0 : (t352 == (Go.bits .andNot .u32 a3 3)) = false := beq_eq_false_iff_ne.mpr c45
                  have c45b1 : (t352 != (Go.bits .andNot .u32 a3 3)) = true := bne_iff_ne.mpr c45
                  have H' := Aside0.mk H
                  clear H
                  go_wp2_with (first | ((with_reducible refine gate_callee (f := 27) rfl ?_); refine goesL_ (some 52) rfl rfl Try.func27 (by kernel_rfl) rfl #[.pointer (some ⟨gb216, 0, none⟩)] rfl (by (try simp only [List.map_toArray, List.map_cons, List.map_nil]); first | done | rfl | (simp only [List.length_drop, List.length_take]; rfl)) ?_; (with_reducible refine (csr_File_Mode.calls gb216 t329 t330 t331 t332 t333 t334 t335 t336 t337 t338 t339 t340 t341 t342 t343 t344 t345 t346 t347 t348 t349 t350 t351 w _ ?side1 ?side2 A40.out).mono ?_); (case side1 => exact And.intro (by (with_reducible repeat (first | refine blk_drewN ?_ _ | refine blk_drew ?_ | refine blk_alloc ?_ _)); exact BK216.out) GW216.out); (case side2 => repeat (first | (with_reducible first | exact HB.out | apply below_alloc | apply pw_below_drewN | apply below_drew1 | refine below_set ?_ GE216.out | refine below_set ?_ GE301.out) | exact HB.out)); rintro e w50 ⟨rfl, hi, hb, hk⟩; refine ⟨_, rfl, ?_⟩; have n0_ := Aside0.mk (KeepBut.blk hk (g' := gb301) (o := .cells #[.bool t290, .int .u32 t291, .int .u32 t292, .int .u32 t293, .int .u32 t294, .int .u32 t295, .int .u32 t296, .int .u32 t297, .int .u32 t298, .int .u32 t299, .int .u32 t300] 38 (0, 0)) (by (with_reducible repeat (first | refine blk_drewN ?_ _ | refine blk_drew ?_ | refine blk_alloc ?_ _)); exact BK301.out) NB301_216.out (by simp)); have n1_ := Aside0.mk (hb); have n2_ := Aside0.mk ((And.left hi)); clear BK301; clear HB; clear BK216; have BK301 := n0_; have HB := n1_; have BK216 := n2_; clear n0_ n1_ n2_; (try clear hb); (try clear hb2); (try clear hk); (try clear hi)) | (go_at_call 26; (with_reducible refine (csr_File_Return.calls gb216 t341 t342 t343 t344 t345 t346 t347 t348 t349 t350 t351 t352 t353 t354 t355 t356 t357 t358 t359 t360 t361 t362 t363 w _ ?side1 ?side2 A44.out).mono ?_); (case side1 => exact And.intro (by (with_reducible repeat (first | refine blk_drewN ?_ _ | refine blk_drew ?_ | refine blk_alloc ?_ _)); exact BK216.out) GW216.out); (case side2 => repeat (first | (with_reducible first | exact HB.out | apply below_alloc | apply pw_below_drewN | apply below_drew1 | refine below_set ?_ GE216.out | refine below_set ?_ GE301.out) | exact HB.out)); rintro e w51 ⟨rfl, hi, hb, hk⟩; have n0_ := Aside0.mk (KeepBut.blk hk (g' := gb301) (o := .cells #[.bool t290, .int .u32 t291, .int .u32 t292, .int .u32 t293, .int .u32 t294, .int .u32 t295, .int .u32 t296, .int .u32 t297, .int .u32 t298, .int .u32 t299, .int .u32 t300] 38 (0, 0)) (by (with_reducible repeat (first | refine blk_drewN ?_ _ | refine blk_drew ?_ | refine blk_alloc ?_ _)); exact BK301.out) NB301_216.out (by simp)); have n1_ := Aside0.mk (hb); have n2_ := Aside0.mk ((And.left hi)); clear BK301; clear HB; clear BK216; have BK301 := n0_; have HB := n1_; have BK216 := n2_; clear n0_ n1_ n2_; (try clear hb); (try clear hb2); (try clear hk); (try clear hi)))
                  go_meet
                  case rel => exact ⟨_, (true), (t353), (t354), (t355), (t356), (t357), (t358), (t359), (t360), (t361), (t362), (t363), (by first | rfl | (simp; done) | (simp [*]; done)), H', ⟨by have := HJ10.out; first | omega | exact Nat.le_refl _⟩, ⟨by (with_reducible repeat (first | refine blk_drewN ?_ _ | refine blk_drew ?_ | refine blk_alloc ?_ _)); exact BK216.out⟩, ⟨by (with_reducible repeat (first | refine blk_drewN ?_ _ | refine blk_drew ?_ | refine blk_alloc ?_ _)); exact BK301.out⟩, ⟨by repeat (first | (with_reducible first | exact HB.out | apply below_alloc | apply pw_below_drewN | apply below_drew1 | refine below_set ?_ GE216.out | refine below_set ?_ GE301.out) | exact HB.out)⟩⟩
              · rw [if_neg c43] at H
                have c43b0 : (t327 == a2) = false := beq_eq_false_iff_ne.mpr c43
                have c43b1 : (t327 != a2) = true := bne_iff_ne.mpr c43
                have H' := Aside0.mk H
                clear H
                go_wp2_with (first | ((with_reducible refine gate_callee (f := 27) rfl ?_); refine goesL_ (some 52) rfl rfl Try.func27 (by kernel_rfl) rfl #[.pointer (some ⟨gb216, 0, none⟩)] rfl (by (try simp only [List.map_toArray, List.map_cons, List.map_nil]); first | done | rfl | (simp only [List.length_drop, List.length_take]; rfl)) ?_; (with_reducible refine (csr_File_Mode.calls gb216 t329 t330 t331 t332 t333 t334 t335 t336 t337 t338 t339 t340 t341 t342 t343 t344 t345 t346 t347 t348 t349 t350 t351 w _ ?side1 ?side2 A40.out).mono ?_); (case side1 => exact And.intro (by (with_reducible repeat (first | refine blk_drewN ?_ _ | refine blk_drew ?_ | refine blk_alloc ?_ _)); exact BK216.out) GW216.out); (case side2 => repeat (first | (with_reducible first | exact HB.out | apply below_alloc | apply pw_below_drewN | apply below_drew1 | refine below_set ?_ GE216.out | refine below_set ?_ GE301.out) | exact HB.out)); rintro e w52 ⟨rfl, hi, hb, hk⟩; refine ⟨_, rfl, ?_⟩; have n0_ := Aside0.mk (KeepBut.blk hk (g' := gb301) (o := .cells #[.bool t290, .int .u32 t291, .int .u32 t292, .int .u32 t293, .int .u32 t294, .int .u32 t295, .int .u32 t296, .int .u32 t297, .int .u32 t298, .int .u32 t299, .int .u32 t300] 38 (0, 0)) (by (with_reducible repeat (first | refine blk_drewN ?_ _ | refine blk_drew ?_ | refine blk_alloc ?_ _)); exact BK301.out) NB301_216.out (by simp)); have n1_ := Aside0.mk (hb); have n2_ := Aside0.mk ((And.left hi)); clear BK301; clear HB; clear BK216; have BK301 := n0_; have HB := n1_; have BK216 := n2_; clear n0_ n1_ n2_; (try clear hb); (try clear hb2); (try clear hk); (try clear hi)))
                go_meet
                case rel => exact ⟨_, (true), (t341), (t342), (t343), (t344), (t345), (t346), (t347), (t348), (t349), (t350), (t351), (by first | rfl | (simp; done) | (simp [*]; done)), H', ⟨by have := HJ10.out; first | omega | exact Nat.le_refl _⟩, ⟨by (with_reducible repeat (first | refine blk_drewN ?_ _ | refine blk_drew ?_ | refine blk_alloc ?_ _)); exact BK216.out⟩, ⟨by (with_reducible repeat (first | refine blk_drewN ?_ _ | refine blk_drew ?_ | refine blk_alloc ?_ _)); exact BK301.out⟩, ⟨by repeat (first | (with_reducible first | exact HB.out | apply below_alloc | apply pw_below_drewN | apply below_drew1 | refine below_set ?_ GE216.out | refine below_set ?_ GE301.out) | exact HB.out)⟩⟩
            · rw [if_neg c42] at H
              have c42b0 : (t314 == a1) = false := beq_eq_false_iff_ne.mpr c42
              have c42b1 : (t314 != a1) = true := bne_iff_ne.mpr c42
              have H' := Aside0.mk H
              clear H
              go_wp2_with (first | ((with_reducible refine gate_callee (f := 27) rfl ?_); refine goesL_ (some 52) rfl rfl Try.func27 (by kernel_rfl) rfl #[.pointer (some ⟨gb216, 0, none⟩)] rfl (by (try simp only [List.map_toArray, List.map_cons, List.map_nil]); first | done | rfl | (simp only [List.length_drop, List.length_take]; rfl)) ?_; (with_reducible refine (csr_File_Mode.calls gb216 t329 t330 t331 t332 t333 t334 t335 t336 t337 t338 t339 t340 t341 t342 t343 t344 t345 t346 t347 t348 t349 t350 t351 w _ ?side1 ?side2 A40.out).mono ?_); (case side1 => exact And.intro (by (with_reducible repeat (first | refine blk_drewN ?_ _ | refine blk_drew ?_ | refine blk_alloc ?_ _)); exact BK216.out) GW216.out); (case side2 => repeat (first | (with_reducible first | exact HB.out | apply below_alloc | apply pw_below_drewN | apply below_drew1 | refine below_set ?_ GE216.out | refine below_set ?_ GE301.out) | exact HB.out)); rintro e w53 ⟨rfl, hi, hb, hk⟩; refine ⟨_, rfl, ?_⟩; have n0_ := Aside0.mk (KeepBut.blk hk (g' := gb301) (o := .cells #[.bool t290, .int .u32 t291, .int .u32 t292, .int .u32 t293, .int .u32 t294, .int .u32 t295, .int .u32 t296, .int .u32 t297, .int .u32 t298, .int .u32 t299, .int .u32 t300] 38 (0, 0)) (by (with_reducible repeat (first | refine blk_drewN ?_ _ | refine blk_drew ?_ | refine blk_alloc ?_ _)); exact BK301.out) NB301_216.out (by simp)); have n1_ := Aside0.mk (hb); have n2_ := Aside0.mk ((And.left hi)); clear BK301; clear HB; clear BK216; have BK301 := n0_; have HB := n1_; have BK216 := n2_; clear n0_ n1_ n2_; (try clear hb); (try clear hb2); (try clear hk); (try clear hi)))
              go_meet
              case rel => exact ⟨_, (true), (t341), (t342), (t343), (t344), (t345), (t346), (t347), (t348), (t349), (t350), (t351), (by first | rfl | (simp; done) | (simp [*]; done)), H', ⟨by have := HJ10.out; first | omega | exact Nat.le_refl _⟩, ⟨by (with_reducible repeat (first | refine blk_drewN ?_ _ | refine blk_drew ?_ | refine blk_alloc ?_ _)); exact BK216.out⟩, ⟨by (with_reducible repeat (first | refine blk_drewN ?_ _ | refine blk_drew ?_ | refine blk_alloc ?_ _)); exact BK301.out⟩, ⟨by repeat (first | (with_reducible first | exact HB.out | apply below_alloc | apply pw_below_drewN | apply below_drew1 | refine below_set ?_ GE216.out | refine below_set ?_ GE301.out) | exact HB.out)⟩⟩
          · rw [if_neg c41] at H
            have c41b0 : (t340 == 3) = false := beq_eq_false_iff_ne.mpr c41
            have c41b1 : (t340 != 3) = true := bne_iff_ne.mpr c41
            (first | rw [c41b0] | (simp only [i64_w, i32_w]; rw [c41b0]) | skip)
            have H' := Aside0.mk H
            clear H
            go_wp2_with (first | ((with_reducible refine gate_callee (f := 27) rfl ?_); refine goesL_ (some 52) rfl rfl Try.func27 (by kernel_rfl) rfl #[.pointer (some ⟨gb216, 0, none⟩)] rfl (by (try simp only [List.map_toArray, List.map_cons, List.map_nil]); first | done | rfl | (simp only [List.length_drop, List.length_take]; rfl)) ?_; (with_reducible refine (csr_File_Mode.calls gb216 t329 t330 t331 t332 t333 t334 t335 t336 t337 t338 t339 t340 t341 t342 t343 t344 t345 t346 t347 t348 t349 t350 t351 w _ ?side1 ?side2 A40.out).mono ?_); (case side1 => exact And.intro (by (with_reducible repeat (first | refine blk_drewN ?_ _ | refine blk_drew ?_ | refine blk_alloc ?_ _)); exact BK216.out) GW216.out); (case side2 => repeat (first | (with_reducible first | exact HB.out | apply below_alloc | apply pw_below_drewN | apply below_drew1 | refine below_set ?_ GE216.out | refine below_set ?_ GE301.out) | exact HB.out)); rintro e w54 ⟨rfl, hi, hb, hk⟩; refine ⟨_, rfl, ?_⟩; have n0_ := Aside0.mk (KeepBut.blk hk (g' := gb301) (o := .cells #[.bool t290, .int .u32 t291, .int .u32 t292, .int .u32 t293, .int .u32 t294, .int .u32 t295, .int .u32 t296, .int .u32 t297, .int .u32 t298, .int .u32 t299, .int .u32 t300] 38 (0, 0)) (by (with_reducible repeat (first | refine blk_drewN ?_ _ | refine blk_drew ?_ | refine blk_alloc ?_ _)); exact BK301.out) NB301_216.out (by simp)); have n1_ := Aside0.mk (hb); have n2_ := Aside0.mk ((And.left hi)); clear BK301; clear HB; clear BK216; have BK301 := n0_; have HB := n1_; have BK216 := n2_; clear n0_ n1_ n2_; (try clear hb); (try clear hb2); (try clear hk); (try clear hi)))
            go_meet
            case rel => exact ⟨_, (true), (t341), (t342), (t343), (t344), (t345), (t346), (t347), (t348), (t349), (t350), (t351), (by first | rfl | (simp; done) | (simp [*]; done)), H', ⟨by have := HJ10.out; first | omega | exact Nat.le_refl _⟩, ⟨by (with_reducible repeat (first | refine blk_drewN ?_ _ | refine blk_drew ?_ | refine blk_alloc ?_ _)); exact BK216.out⟩, ⟨by (with_reducible repeat (first | refine blk_drewN ?_ _ | refine blk_drew ?_ | refine blk_alloc ?_ _)); exact BK301.out⟩, ⟨by repeat (first | (with_reducible first | exact HB.out | apply below_alloc | apply pw_below_drewN | apply below_drew1 | refine below_set ?_ GE216.out | refine below_set ?_ GE301.out) | exact HB.out)⟩⟩
        case rest =>
          clear HC31
          try clear c1
          try clear c2
          try clear p2
          try clear c3
          try clear c4
          try clear c7
          try clear c10
          try clear c18
          try clear c20
          try clear c21
          try clear c22
          try clear c23
          try clear c26
          try clear c27
          try clear c28
          try clear c35
          try clear c41
          try clear c41b0
          try clear c41b1
          try clear c42
          try clear c42b0
          try clear c42b1
          try clear c43
          try clear c43b0
          try clear c43b1
          try clear c45
          try clear c45b0
          try clear c45b1
          try clear hcz15_0
          try clear hcz15_1
          try clear hcz15_10
          try clear hcz15_2
          try clear hcz15_3
          try clear hcz15_4
          try clear hcz15_5
          try clear hcz15_6
          try clear hcz15_7
          try clear hcz15_8
          try clear hcz15_9
          try clear hcz33_0
          try clear hcz33_1
          try clear hcz33_10
          try clear hcz33_2
          try clear hcz33_3
          try clear hcz33_4
          try clear hcz33_5
          try clear hcz33_6
          try clear hcz33_7
          try clear hcz33_8
          try clear hcz33_9
          try clear hcz36_0
          try clear hcz36_1
          try clear hcz36_10
          try clear hcz36_2
          try clear hcz36_3
          try clear hcz36_4
          try clear hcz36_5
          try clear hcz36_6
          try clear hcz36_7
          try clear hcz36_8
          try clear hcz36_9
          try clear hfz15_0
          try clear hfz15_1
          try clear hfz15_10
          try clear hfz15_2
          try clear hfz15_3
          try clear hfz15_4
          try clear hfz15_5
          try clear hfz15_6
          try clear hfz15_7
          try clear hfz15_8
          try clear hfz15_9
          try clear hfz33_0
          try clear hfz33_1
          try clear hfz33_10
          try clear hfz33_2
          try clear hfz33_3
          try clear hfz33_4
          try clear hfz33_5
          try clear hfz33_6
          try clear hfz33_7
          try clear hfz33_8
          try clear hfz33_9
          try clear hfz36_0
          try clear hfz36_1
          try clear hfz36_10
          try clear hfz36_2
          try clear hfz36_3
          try clear hfz36_4
          try clear hfz36_5
          try clear hfz36_6
          try clear hfz36_7
          try clear hfz36_8
          try clear hfz36_9
          try clear p2
          obtain ⟨kq, x74_30, x217000_30, x217001_30, x217002_30, x217003_30, x217004_30, x217005_30, x217006_30, x217007_30, x217008_30, x217009_30, x217010_30, rfl, HA, HJ30, BK216, BK301, HB⟩ := hcut
          cases kq with
          | zero => exact absurd HA.out (by simp [corrallaw6_CsrReturns.j1])
          | succ kj30 =>
            have H := HA.out
            clear HA
            simp only [corrallaw6_CsrReturns.j1] at H
            by_cases c55 : x74_30 = true
            · subst c55
              have H1 : (some false) = some r := by rw [if_pos rfl] at H; exact H
              clear H
              have H := H1
              clear H1
              exact absurd (Option.some.inj H) (by rw [HRT.out]; decide)
            · replace c55 := Bool.eq_false_iff.mpr c55
              subst c55
              have H1 : ((csr_File_Bell.f x217000_30 x217001_30 x217002_30 x217003_30 x217004_30 x217005_30 x217006_30 x217007_30 x217008_30 x217009_30 x217010_30 true).bind fun bt376 => ((csr_File_Bell.f t290 t291 t292 t293 t294 t295 t296 t297 t298 t299 t300 true).bind fun bt387 => ((csr_File_Pending.f bt376.1 bt376.2.1 bt376.2.2.1 bt376.2.2.2.1 bt376.2.2.2.2.1 bt376.2.2.2.2.2.1 bt376.2.2.2.2.2.2.1 bt376.2.2.2.2.2.2.2.1 bt376.2.2.2.2.2.2.2.2.1 bt376.2.2.2.2.2.2.2.2.2.1 bt376.2.2.2.2.2.2.2.2.2.2).bind fun bt398 => ((csr_File_Pending.f bt387.1 bt387.2.1 bt387.2.2.1 bt387.2.2.2.1 bt387.2.2.2.2.1 bt387.2.2.2.2.2.1 bt387.2.2.2.2.2.2.1 bt387.2.2.2.2.2.2.2.1 bt387.2.2.2.2.2.2.2.2.1 bt387.2.2.2.2.2.2.2.2.2.1 bt387.2.2.2.2.2.2.2.2.2.2).bind fun bt411 => (if true = true then (if bt398.1 = bt411.1 then (if (bt398.2.1 == bt411.2.1) = true then ((corrallaw6_map2.f a4).bind fun t424 => (some (t289 == t424))) else (some false)) else (some false)) else (some false)))))) = some r := by rw [if_neg (show ¬ (false = true) by decide)] at H; exact H
              clear H
              have H := H1
              clear H1
              replace H := Option.bind_eq_some_iff.mp H
              obtain ⟨⟨t376, t377, t378, t379, t380, t381, t382, t383, t384, t385, t386⟩, A560, H⟩ := H
              replace H : ((csr_File_Bell.f t290 t291 t292 t293 t294 t295 t296 t297 t298 t299 t300 true).bind fun bt387 => ((csr_File_Pending.f t376 t377 t378 t379 t380 t381 t382 t383 t384 t385 t386).bind fun bt398 => ((csr_File_Pending.f bt387.1 bt387.2.1 bt387.2.2.1 bt387.2.2.2.1 bt387.2.2.2.2.1 bt387.2.2.2.2.2.1 bt387.2.2.2.2.2.2.1 bt387.2.2.2.2.2.2.2.1 bt387.2.2.2.2.2.2.2.2.1 bt387.2.2.2.2.2.2.2.2.2.1 bt387.2.2.2.2.2.2.2.2.2.2).bind fun bt411 => (if true = true then (if bt398.1 = bt411.1 then (if (bt398.2.1 == bt411.2.1) = true then ((corrallaw6_map2.f a4).bind fun t424 => (some (t289 == t424))) else (some false)) else (some false)) else (some false))))) = some r := H
              have A56 := Aside0.mk A560
              clear A560
              replace H := Option.bind_eq_some_iff.mp H
              obtain ⟨⟨t387, t388, t389, t390, t391, t392, t393, t394, t395, t396, t397⟩, A570, H⟩ := H
              replace H : ((csr_File_Pending.f t376 t377 t378 t379 t380 t381 t382 t383 t384 t385 t386).bind fun bt398 => ((csr_File_Pending.f t387 t388 t389 t390 t391 t392 t393 t394 t395 t396 t397).bind fun bt411 => (if true = true then (if bt398.1 = bt411.1 then (if (bt398.2.1 == bt411.2.1) = true then ((corrallaw6_map2.f a4).bind fun t424 => (some (t289 == t424))) else (some false)) else (some false)) else (some false)))) = some r := H
              have A57 := Aside0.mk A570
              clear A570
              replace H := Option.bind_eq_some_iff.mp H
              obtain ⟨⟨t398, t399, t400, t401, t402, t403, t404, t405, t406, t407, t408, t409, t410⟩, A580, H⟩ := H
              replace H : ((csr_File_Pending.f t387 t388 t389 t390 t391 t392 t393 t394 t395 t396 t397).bind fun bt411 => (if true = true then (if t398 = bt411.1 then (if (t399 == bt411.2.1) = true then ((corrallaw6_map2.f a4).bind fun t424 => (some (t289 == t424))) else (some false)) else (some false)) else (some false))) = some r := H
              have A58 := Aside0.mk A580
              clear A580
              replace H := Option.bind_eq_some_iff.mp H
              obtain ⟨⟨t411, t412, t413, t414, t415, t416, t417, t418, t419, t420, t421, t422, t423⟩, A590, H⟩ := H
              replace H : (if true = true then (if t398 = t411 then (if (t399 == t412) = true then ((corrallaw6_map2.f a4).bind fun t424 => (some (t289 == t424))) else (some false)) else (some false)) else (some false)) = some r := H
              have A59 := Aside0.mk A590
              clear A590
              replace H : (if t398 = t411 then (if (t399 == t412) = true then ((corrallaw6_map2.f a4).bind fun t424 => (some (t289 == t424))) else (some false)) else (some false)) = some r := by first | (rw [if_pos rfl] at H; exact H) | (rw [if_pos trivial] at H; exact H)
              by_cases c60 : t398 = t411
              · rw [if_pos c60] at H
                have c60b0 : (t398 == t411) = true := beq_iff_eq.mpr c60
                have c60b1 : (t398 != t411) = false := bne_eq_false_iff_eq.mpr c60
                clear c60
                by_cases c61 : (t399 == t412) = true
                · rw [if_pos c61] at H
                  have c61b0 : (t399 == t412) = true := c61
                  (try (have c61b1 : decide (t399 = t412) = true := by simpa using c61))
                  (try (have c61b2 : (t399 == t412) = true := by simpa using c61))
                  clear c61
                  replace H := Option.bind_eq_some_iff.mp H
                  obtain ⟨t424, A620, H⟩ := H
                  replace H : (some (t289 == t424)) = some r := H
                  have A62 := Aside0.mk A620
                  clear A620
                  clear HRT
                  obtain rfl := Option.some.inj H
                  go_wp2_with (first | ((with_reducible refine gate_callee (f := 29) rfl ?_); refine goesL_ (some 75) rfl rfl Try.func29 (by kernel_rfl) rfl #[.pointer (some ⟨gb216, 0, none⟩), .bool true] rfl (by (try simp only [List.map_toArray, List.map_cons, List.map_nil]); first | done | rfl | (simp only [List.length_drop, List.length_take]; rfl)) ?_; (with_reducible refine (csr_File_Bell.calls gb216 x217000_30 x217001_30 x217002_30 x217003_30 x217004_30 x217005_30 x217006_30 x217007_30 x217008_30 x217009_30 x217010_30 true t376 t377 t378 t379 t380 t381 t382 t383 t384 t385 t386 w _ ?side1 ?side2 A56.out).mono ?_); (case side1 => exact And.intro (by (with_reducible repeat (first | refine blk_drewN ?_ _ | refine blk_drew ?_ | refine blk_alloc ?_ _)); exact BK216.out) GW216.out); (case side2 => repeat (first | (with_reducible first | exact HB.out | apply below_alloc | apply pw_below_drewN | apply below_drew1 | refine below_set ?_ GE216.out | refine below_set ?_ GE301.out) | exact HB.out)); rintro e w63 ⟨rfl, hi, hb, hk⟩; refine ⟨_, rfl, ?_⟩; have n0_ := Aside0.mk (KeepBut.blk hk (g' := gb301) (o := .cells #[.bool t290, .int .u32 t291, .int .u32 t292, .int .u32 t293, .int .u32 t294, .int .u32 t295, .int .u32 t296, .int .u32 t297, .int .u32 t298, .int .u32 t299, .int .u32 t300] 38 (0, 0)) (by (with_reducible repeat (first | refine blk_drewN ?_ _ | refine blk_drew ?_ | refine blk_alloc ?_ _)); exact BK301.out) NB301_216.out (by simp)); have n1_ := Aside0.mk (hb); have n2_ := Aside0.mk ((And.left hi)); clear BK301; clear HB; clear BK216; have BK301 := n0_; have HB := n1_; have BK216 := n2_; clear n0_ n1_ n2_; (try clear hb); (try clear hb2); (try clear hk); (try clear hi)) | ((with_reducible refine gate_callee (f := 29) rfl ?_); refine goesL_ (some 76) rfl rfl Try.func29 (by kernel_rfl) rfl #[.pointer (some ⟨gb301, 0, none⟩), .bool true] rfl (by (try simp only [List.map_toArray, List.map_cons, List.map_nil]); first | done | rfl | (simp only [List.length_drop, List.length_take]; rfl)) ?_; (with_reducible refine (csr_File_Bell.calls gb301 t290 t291 t292 t293 t294 t295 t296 t297 t298 t299 t300 true t387 t388 t389 t390 t391 t392 t393 t394 t395 t396 t397 w _ ?side1 ?side2 A57.out).mono ?_); (case side1 => exact And.intro (by (with_reducible repeat (first | refine blk_drewN ?_ _ | refine blk_drew ?_ | refine blk_alloc ?_ _)); exact BK301.out) GW301.out); (case side2 => repeat (first | (with_reducible first | exact HB.out | apply below_alloc | apply pw_below_drewN | apply below_drew1 | refine below_set ?_ GE216.out | refine below_set ?_ GE301.out) | exact HB.out)); rintro e w64 ⟨rfl, hi, hb, hk⟩; refine ⟨_, rfl, ?_⟩; have n0_ := Aside0.mk (KeepBut.blk hk (g' := gb216) (o := .cells #[.bool t376, .int .u32 t377, .int .u32 t378, .int .u32 t379, .int .u32 t380, .int .u32 t381, .int .u32 t382, .int .u32 t383, .int .u32 t384, .int .u32 t385, .int .u32 t386] 38 (0, 0)) (by (with_reducible repeat (first | refine blk_drewN ?_ _ | refine blk_drew ?_ | refine blk_alloc ?_ _)); exact BK216.out) NB216_301.out (by simp)); have n1_ := Aside0.mk (hb); have n2_ := Aside0.mk ((And.left hi)); clear BK216; clear HB; clear BK301; have BK216 := n0_; have HB := n1_; have BK301 := n2_; clear n0_ n1_ n2_; (try clear hb); (try clear hb2); (try clear hk); (try clear hi)) | ((with_reducible refine gate_callee (f := 30) rfl ?_); refine goesL_ (some 78) rfl rfl Try.func30 (by kernel_rfl) rfl #[.pointer (some ⟨gb216, 0, none⟩)] rfl (by (try simp only [List.map_toArray, List.map_cons, List.map_nil]); first | done | rfl | (simp only [List.length_drop, List.length_take]; rfl)) ?_; (with_reducible refine (csr_File_Pending.calls gb216 t376 t377 t378 t379 t380 t381 t382 t383 t384 t385 t386 t398 t399 t400 t401 t402 t403 t404 t405 t406 t407 t408 t409 t410 w _ ?side1 ?side2 A58.out).mono ?_); (case side1 => exact And.intro (by (with_reducible repeat (first | refine blk_drewN ?_ _ | refine blk_drew ?_ | refine blk_alloc ?_ _)); exact BK216.out) GW216.out); (case side2 => repeat (first | (with_reducible first | exact HB.out | apply below_alloc | apply pw_below_drewN | apply below_drew1 | refine below_set ?_ GE216.out | refine below_set ?_ GE301.out) | exact HB.out)); rintro e w65 ⟨rfl, hi, hb, hk⟩; refine ⟨_, rfl, ?_⟩; have n0_ := Aside0.mk (KeepBut.blk hk (g' := gb301) (o := .cells #[.bool t387, .int .u32 t388, .int .u32 t389, .int .u32 t390, .int .u32 t391, .int .u32 t392, .int .u32 t393, .int .u32 t394, .int .u32 t395, .int .u32 t396, .int .u32 t397] 38 (0, 0)) (by (with_reducible repeat (first | refine blk_drewN ?_ _ | refine blk_drew ?_ | refine blk_alloc ?_ _)); exact BK301.out) NB301_216.out (by simp)); have n1_ := Aside0.mk (hb); have n2_ := Aside0.mk ((And.left hi)); clear BK301; clear HB; clear BK216; have BK301 := n0_; have HB := n1_; have BK216 := n2_; clear n0_ n1_ n2_; (try clear hb); (try clear hb2); (try clear hk); (try clear hi)) | ((with_reducible refine gate_callee (f := 30) rfl ?_); refine goesL_ (some 82) rfl rfl Try.func30 (by kernel_rfl) rfl #[.pointer (some ⟨gb301, 0, none⟩)] rfl (by (try simp only [List.map_toArray, List.map_cons, List.map_nil]); first | done | rfl | (simp only [List.length_drop, List.length_take]; rfl)) ?_; (with_reducible refine (csr_File_Pending.calls gb301 t387 t388 t389 t390 t391 t392 t393 t394 t395 t396 t397 t411 t412 t413 t414 t415 t416 t417 t418 t419 t420 t421 t422 t423 w _ ?side1 ?side2 A59.out).mono ?_); (case side1 => exact And.intro (by (with_reducible repeat (first | refine blk_drewN ?_ _ | refine blk_drew ?_ | refine blk_alloc ?_ _)); exact BK301.out) GW301.out); (case side2 => repeat (first | (with_reducible first | exact HB.out | apply below_alloc | apply pw_below_drewN | apply below_drew1 | refine below_set ?_ GE216.out | refine below_set ?_ GE301.out) | exact HB.out)); rintro e w66 ⟨rfl, hi, hb, hk⟩; refine ⟨_, rfl, ?_⟩; have n0_ := Aside0.mk (KeepBut.blk hk (g' := gb216) (o := .cells #[.bool t400, .int .u32 t401, .int .u32 t402, .int .u32 t403, .int .u32 t404, .int .u32 t405, .int .u32 t406, .int .u32 t407, .int .u32 t408, .int .u32 t409, .int .u32 t410] 38 (0, 0)) (by (with_reducible repeat (first | refine blk_drewN ?_ _ | refine blk_drew ?_ | refine blk_alloc ?_ _)); exact BK216.out) NB216_301.out (by simp)); have n1_ := Aside0.mk (hb); have n2_ := Aside0.mk ((And.left hi)); clear BK216; clear HB; clear BK301; have BK216 := n0_; have HB := n1_; have BK301 := n2_; clear n0_ n1_ n2_; (try clear hb); (try clear hb2); (try clear hk); (try clear hi)) | (go_at_call 31; (with_reducible refine (corrallaw6_map2.calls a4 t424 _ A62.out).mono ?_); rintro e w' ⟨rfl, ⟨nd, rfl⟩⟩))
                  go_ret
                  exact ⟨by first | rfl | (simp [errW_none, errW_some] <;> rfl) | (simp [*, errW_none, errW_some] <;> rfl), by repeat (first | (with_reducible first | exact HB.out | apply below_alloc | apply pw_below_drewN | apply below_drew1 | refine below_set ?_ GE216.out | refine below_set ?_ GE301.out) | exact HB.out)⟩
                · rw [if_neg c61] at H
                  have c61b0 : (t399 == t412) = false := by simpa using c61
                  (try (have c61b1 : decide (t399 = t412) = false := by simpa using c61))
                  (try (have c61b2 : (t399 == t412) = false := by simpa using c61))
                  (try (have c61b3 : ¬ (t399 = t412) := by simpa using c61))
                  clear c61
                  exact absurd (Option.some.inj H) (by rw [HRT.out]; decide)
              · rw [if_neg c60] at H
                have c60b0 : (t398 == t411) = false := beq_eq_false_iff_ne.mpr c60
                have c60b1 : (t398 != t411) = true := bne_iff_ne.mpr c60
                exact absurd (Option.some.inj H) (by rw [HRT.out]; decide)
  · replace c7 := Bool.eq_false_iff.mpr c7
    subst c7
    have H1 : (some false) = some r := by rw [if_neg (show ¬ (false = true) by decide)] at H; exact H
    clear H
    have H := H1
    clear H1
    exact absurd (Option.some.inj H) (by rw [HRT.out]; decide)

/-- THE ONE PURE STATEMENT of corrallaw6_CsrReturns: yours. -/
def corrallaw6_CsrReturns.Pure : Prop := ∀ (a0 : Int) (a1 : Int) (a2 : Int) (a3 : Int) (a4 : Bool), (Lit.int .u32 a0).wf = true → (Lit.int .u32 a1).wf = true → (Lit.int .u32 a2).wf = true → (Lit.int .u32 a3).wf = true → ∃ k, corrallaw6_CsrReturns.f k a0 a1 a2 a3 a4 = some true
theorem corrallaw6_CsrReturns.walk (P : corrallaw6_CsrReturns.Pure) (a0 : Int) (a1 : Int) (a2 : Int) (a3 : Int) (a4 : Bool) (w : World) (w0 : (Lit.int .u32 a0).wf = true) (w1 : (Lit.int .u32 a1).wf = true) (w2 : (Lit.int .u32 a2).wf = true) (w3 : (Lit.int .u32 a3).wf = true) :
    Calls Try.prog 10 #[.int .u32 a0, .int .u32 a1, .int .u32 a2, .int .u32 a3, .bool a4] w fun e w' => e = .returned (.bool true) ∧ Below w.heap.size w w' := by
  obtain ⟨k, h⟩ := P a0 a1 a2 a3 a4 w0 w1 w2 w3
  refine (corrallaw6_CsrReturns.calls k a0 a1 a2 a3 a4 true w h rfl).mono ?_
  rintro e w' ⟨rfl, hd⟩
  exact ⟨rfl, hd⟩

end Go.Proofs.Ytcaohimipkoapaa.QCsrReturns
