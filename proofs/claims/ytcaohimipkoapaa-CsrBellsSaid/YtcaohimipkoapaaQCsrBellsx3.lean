-- Laid by a program of this session (wip/tpl/mine.sh), out of the program's form in Lean: Lean checks it.
import Derived.Test.YtcaohimipkoapaaQCsrBellsx0
import Derived.Test.YtcaohimipkoapaaQCsrBellsx1
import Derived.Test.YtcaohimipkoapaaQCsrBellsx2
namespace Go.Proofs.Ytcaohimipkoapaa.QCsrBells
open Go.RowKit Go.Proofs.YtcaohimipkoapaaW.PrintWords Go.Proofs.YtcaohimipkoapaaW.PrintLast Go.Proofs.YtcaohimipkoapaaW.PrintMore
attribute [local go_sem] max2_int min2_int max_two min_two max_three min_three max_four min_four   -- for this text's walks alone
set_option linter.unusedVariables false
set_option linter.unusedSimpArgs false

/-! ### csr_File_Pending: function 30 -/
def csr_File_Pending.f (s0_0 : Bool) (s0_1 : Int) (s0_2 : Int) (s0_3 : Int) (s0_4 : Int) (s0_5 : Int) (s0_6 : Int) (s0_7 : Int) (s0_8 : Int) (s0_9 : Int) (s0_10 : Int) : Option (Int × Bool × Bool × Int × Int × Int × Int × Int × Int × Int × Int × Int × Int) := if (Go.bits .and .u32 (Go.bits .and .u32 s0_9 s0_3) 8) = 0 then (some (0, false, s0_0, s0_1, s0_2, s0_3, s0_4, s0_5, s0_6, s0_7, s0_8, s0_9, s0_10)) else (if s0_0 = true then (some (2147483651, true, s0_0, s0_1, s0_2, s0_3, s0_4, s0_5, s0_6, s0_7, s0_8, s0_9, s0_10)) else (if (Go.bits .and .u32 s0_2 8) = 0 then (some (0, false, s0_0, s0_1, s0_2, s0_3, s0_4, s0_5, s0_6, s0_7, s0_8, s0_9, s0_10)) else (some (2147483651, true, s0_0, s0_1, s0_2, s0_3, s0_4, s0_5, s0_6, s0_7, s0_8, s0_9, s0_10))))
set_option maxHeartbeats 8000000 in
set_option maxRecDepth 100000 in
theorem csr_File_Pending.calls (g : Nat) (s0_0 : Bool) (s0_1 : Int) (s0_2 : Int) (s0_3 : Int) (s0_4 : Int) (s0_5 : Int) (s0_6 : Int) (s0_7 : Int) (s0_8 : Int) (s0_9 : Int) (s0_10 : Int) (r1 : Int) (r2 : Bool) (r3 : Bool) (r4 : Int) (r5 : Int) (r6 : Int) (r7 : Int) (r8 : Int) (r9 : Int) (r10 : Int) (r11 : Int) (r12 : Int) (r13 : Int) (w0 w : World) (hI : IsS38 w0 w g s0_0 s0_1 s0_2 s0_3 s0_4 s0_5 s0_6 s0_7 s0_8 s0_9 s0_10) (hB : Below w0.heap.size w0 w) (h : csr_File_Pending.f s0_0 s0_1 s0_2 s0_3 s0_4 s0_5 s0_6 s0_7 s0_8 s0_9 s0_10 = some (r1, r2, r3, r4, r5, r6, r7, r8, r9, r10, r11, r12, r13)) :
    Calls Try.prog 30 #[.pointer (some ⟨g, 0, none⟩)] w fun e w' => e = .returned (.tuple #[.int .u32 r1, .bool r2]) ∧ IsS38 w0 w' g r3 r4 r5 r6 r7 r8 r9 r10 r11 r12 r13 ∧ Below w0.heap.size w0 w' ∧ KeepBut w w' g none := by
  have HI0 := Aside0.mk hI
  have HK := Aside0.mk (KeepBut.refl w g none)
  have HL := Aside0.mk hB.size
  clear hI
  have HW0 := Aside0.mk hB.size
  have HB := Aside0.mk hB
  clear hB
  have H : (if (Go.bits .and .u32 (Go.bits .and .u32 s0_9 s0_3) 8) = 0 then (some (0, false, s0_0, s0_1, s0_2, s0_3, s0_4, s0_5, s0_6, s0_7, s0_8, s0_9, s0_10)) else (if s0_0 = true then (some (2147483651, true, s0_0, s0_1, s0_2, s0_3, s0_4, s0_5, s0_6, s0_7, s0_8, s0_9, s0_10)) else (if (Go.bits .and .u32 s0_2 8) = 0 then (some (0, false, s0_0, s0_1, s0_2, s0_3, s0_4, s0_5, s0_6, s0_7, s0_8, s0_9, s0_10)) else (some (2147483651, true, s0_0, s0_1, s0_2, s0_3, s0_4, s0_5, s0_6, s0_7, s0_8, s0_9, s0_10))))) = some (r1, r2, r3, r4, r5, r6, r7, r8, r9, r10, r11, r12, r13) := h
  clear h
  by_cases c2 : (Go.bits .and .u32 (Go.bits .and .u32 s0_9 s0_3) 8) = 0
  · rw [if_pos c2] at H
    have c2b0 : ((Go.bits .and .u32 (Go.bits .and .u32 s0_9 s0_3) 8) == 0) = true := beq_iff_eq.mpr c2
    have c2b1 : ((Go.bits .and .u32 (Go.bits .and .u32 s0_9 s0_3) 8) != 0) = false := bne_eq_false_iff_eq.mpr c2
    clear c2
    simp only [Option.some.injEq, Prod.mk.injEq] at H
    obtain ⟨rfl, rfl, rfl, rfl, rfl, rfl, rfl, rfl, rfl, rfl, rfl, rfl, rfl⟩ := H
    obtain ⟨HGz3, hgz3⟩ := HI0.out
    have hcz3_0 := cellS38_0 HGz3
    have hcz3_1 := cellS38_1 HGz3
    have hcz3_2 := cellS38_2 HGz3
    have hcz3_3 := cellS38_3 HGz3
    have hcz3_4 := cellS38_4 HGz3
    have hcz3_5 := cellS38_5 HGz3
    have hcz3_6 := cellS38_6 HGz3
    have hcz3_7 := cellS38_7 HGz3
    have hcz3_8 := cellS38_8 HGz3
    have hcz3_9 := cellS38_9 HGz3
    have hcz3_10 := cellS38_10 HGz3
    have hfz3_0 := blk_frozen HGz3 0
    have hfz3_1 := blk_frozen HGz3 1
    have hfz3_2 := blk_frozen HGz3 2
    have hfz3_3 := blk_frozen HGz3 3
    have hfz3_4 := blk_frozen HGz3 4
    have hfz3_5 := blk_frozen HGz3 5
    have hfz3_6 := blk_frozen HGz3 6
    have hfz3_7 := blk_frozen HGz3 7
    have hfz3_8 := blk_frozen HGz3 8
    have hfz3_9 := blk_frozen HGz3 9
    have hfz3_10 := blk_frozen HGz3 10
    clear HGz3 hgz3
    go_enter Try.func30, Try.ntmps30
    go_wp2
    repeat (go_quiet (fail); try go_wp2)
    go_ret2
    exact ⟨by first | rfl | (simp [errW_none, errW_some] <;> rfl) | (simp [*, errW_none, errW_some] <;> rfl), by repeat (first | (with_reducible first | exact HI0.out | apply IsS38.alloc | apply IsS38.drewN | apply IsS38.drew | apply IsS38.set_0 | apply IsS38.set_1 | apply IsS38.set_2 | apply IsS38.set_3 | apply IsS38.set_4 | apply IsS38.set_5 | apply IsS38.set_6 | apply IsS38.set_7 | apply IsS38.set_8 | apply IsS38.set_9 | apply IsS38.set_10) | exact HI0.out), by repeat (first | (with_reducible first | exact HB.out | apply below_alloc | apply pw_below_drewN | apply below_drew1 | refine below_set ?_ (IsS38.ge HI0.out)) | exact HB.out), by repeat (first | (with_reducible first | exact HK.out | apply KeepBut.set_ | apply keep_drewN | apply keep_drew | apply keep_alloc) | exact HK.out)⟩
  · rw [if_neg c2] at H
    have c2b0 : ((Go.bits .and .u32 (Go.bits .and .u32 s0_9 s0_3) 8) == 0) = false := beq_eq_false_iff_ne.mpr c2
    have c2b1 : ((Go.bits .and .u32 (Go.bits .and .u32 s0_9 s0_3) 8) != 0) = true := bne_iff_ne.mpr c2
    by_cases c4 : s0_0 = true
    · subst c4
      have H1 : (some (2147483651, true, true, s0_1, s0_2, s0_3, s0_4, s0_5, s0_6, s0_7, s0_8, s0_9, s0_10)) = some (r1, r2, r3, r4, r5, r6, r7, r8, r9, r10, r11, r12, r13) := by rw [if_pos rfl] at H; exact H
      clear H
      have H := H1
      clear H1
      simp only [Option.some.injEq, Prod.mk.injEq] at H
      obtain ⟨rfl, rfl, rfl, rfl, rfl, rfl, rfl, rfl, rfl, rfl, rfl, rfl, rfl⟩ := H
      obtain ⟨HGz5, hgz5⟩ := HI0.out
      have hcz5_0 := cellS38_0 HGz5
      have hcz5_1 := cellS38_1 HGz5
      have hcz5_2 := cellS38_2 HGz5
      have hcz5_3 := cellS38_3 HGz5
      have hcz5_4 := cellS38_4 HGz5
      have hcz5_5 := cellS38_5 HGz5
      have hcz5_6 := cellS38_6 HGz5
      have hcz5_7 := cellS38_7 HGz5
      have hcz5_8 := cellS38_8 HGz5
      have hcz5_9 := cellS38_9 HGz5
      have hcz5_10 := cellS38_10 HGz5
      have hfz5_0 := blk_frozen HGz5 0
      have hfz5_1 := blk_frozen HGz5 1
      have hfz5_2 := blk_frozen HGz5 2
      have hfz5_3 := blk_frozen HGz5 3
      have hfz5_4 := blk_frozen HGz5 4
      have hfz5_5 := blk_frozen HGz5 5
      have hfz5_6 := blk_frozen HGz5 6
      have hfz5_7 := blk_frozen HGz5 7
      have hfz5_8 := blk_frozen HGz5 8
      have hfz5_9 := blk_frozen HGz5 9
      have hfz5_10 := blk_frozen HGz5 10
      clear HGz5 hgz5
      go_enter Try.func30, Try.ntmps30
      go_wp2
      repeat (go_quiet (fail); try go_wp2)
      go_ret2
      exact ⟨by first | rfl | (simp [errW_none, errW_some] <;> rfl) | (simp [*, errW_none, errW_some] <;> rfl), by repeat (first | (with_reducible first | exact HI0.out | apply IsS38.alloc | apply IsS38.drewN | apply IsS38.drew | apply IsS38.set_0 | apply IsS38.set_1 | apply IsS38.set_2 | apply IsS38.set_3 | apply IsS38.set_4 | apply IsS38.set_5 | apply IsS38.set_6 | apply IsS38.set_7 | apply IsS38.set_8 | apply IsS38.set_9 | apply IsS38.set_10) | exact HI0.out), by repeat (first | (with_reducible first | exact HB.out | apply below_alloc | apply pw_below_drewN | apply below_drew1 | refine below_set ?_ (IsS38.ge HI0.out)) | exact HB.out), by repeat (first | (with_reducible first | exact HK.out | apply KeepBut.set_ | apply keep_drewN | apply keep_drew | apply keep_alloc) | exact HK.out)⟩
    · replace c4 := Bool.eq_false_iff.mpr c4
      subst c4
      have H1 : (if (Go.bits .and .u32 s0_2 8) = 0 then (some (0, false, false, s0_1, s0_2, s0_3, s0_4, s0_5, s0_6, s0_7, s0_8, s0_9, s0_10)) else (some (2147483651, true, false, s0_1, s0_2, s0_3, s0_4, s0_5, s0_6, s0_7, s0_8, s0_9, s0_10))) = some (r1, r2, r3, r4, r5, r6, r7, r8, r9, r10, r11, r12, r13) := by rw [if_neg (show ¬ (false = true) by decide)] at H; exact H
      clear H
      have H := H1
      clear H1
      by_cases c6 : (Go.bits .and .u32 s0_2 8) = 0
      · rw [if_pos c6] at H
        have c6b0 : ((Go.bits .and .u32 s0_2 8) == 0) = true := beq_iff_eq.mpr c6
        have c6b1 : ((Go.bits .and .u32 s0_2 8) != 0) = false := bne_eq_false_iff_eq.mpr c6
        clear c6
        simp only [Option.some.injEq, Prod.mk.injEq] at H
        obtain ⟨rfl, rfl, rfl, rfl, rfl, rfl, rfl, rfl, rfl, rfl, rfl, rfl, rfl⟩ := H
        obtain ⟨HGz7, hgz7⟩ := HI0.out
        have hcz7_0 := cellS38_0 HGz7
        have hcz7_1 := cellS38_1 HGz7
        have hcz7_2 := cellS38_2 HGz7
        have hcz7_3 := cellS38_3 HGz7
        have hcz7_4 := cellS38_4 HGz7
        have hcz7_5 := cellS38_5 HGz7
        have hcz7_6 := cellS38_6 HGz7
        have hcz7_7 := cellS38_7 HGz7
        have hcz7_8 := cellS38_8 HGz7
        have hcz7_9 := cellS38_9 HGz7
        have hcz7_10 := cellS38_10 HGz7
        have hfz7_0 := blk_frozen HGz7 0
        have hfz7_1 := blk_frozen HGz7 1
        have hfz7_2 := blk_frozen HGz7 2
        have hfz7_3 := blk_frozen HGz7 3
        have hfz7_4 := blk_frozen HGz7 4
        have hfz7_5 := blk_frozen HGz7 5
        have hfz7_6 := blk_frozen HGz7 6
        have hfz7_7 := blk_frozen HGz7 7
        have hfz7_8 := blk_frozen HGz7 8
        have hfz7_9 := blk_frozen HGz7 9
        have hfz7_10 := blk_frozen HGz7 10
        clear HGz7 hgz7
        go_enter Try.func30, Try.ntmps30
        go_wp2
        repeat (go_quiet (fail); try go_wp2)
        go_ret2
        exact ⟨by first | rfl | (simp [errW_none, errW_some] <;> rfl) | (simp [*, errW_none, errW_some] <;> rfl), by repeat (first | (with_reducible first | exact HI0.out | apply IsS38.alloc | apply IsS38.drewN | apply IsS38.drew | apply IsS38.set_0 | apply IsS38.set_1 | apply IsS38.set_2 | apply IsS38.set_3 | apply IsS38.set_4 | apply IsS38.set_5 | apply IsS38.set_6 | apply IsS38.set_7 | apply IsS38.set_8 | apply IsS38.set_9 | apply IsS38.set_10) | exact HI0.out), by repeat (first | (with_reducible first | exact HB.out | apply below_alloc | apply pw_below_drewN | apply below_drew1 | refine below_set ?_ (IsS38.ge HI0.out)) | exact HB.out), by repeat (first | (with_reducible first | exact HK.out | apply KeepBut.set_ | apply keep_drewN | apply keep_drew | apply keep_alloc) | exact HK.out)⟩
      · rw [if_neg c6] at H
        have c6b0 : ((Go.bits .and .u32 s0_2 8) == 0) = false := beq_eq_false_iff_ne.mpr c6
        have c6b1 : ((Go.bits .and .u32 s0_2 8) != 0) = true := bne_iff_ne.mpr c6
        simp only [Option.some.injEq, Prod.mk.injEq] at H
        obtain ⟨rfl, rfl, rfl, rfl, rfl, rfl, rfl, rfl, rfl, rfl, rfl, rfl, rfl⟩ := H
        obtain ⟨HGz8, hgz8⟩ := HI0.out
        have hcz8_0 := cellS38_0 HGz8
        have hcz8_1 := cellS38_1 HGz8
        have hcz8_2 := cellS38_2 HGz8
        have hcz8_3 := cellS38_3 HGz8
        have hcz8_4 := cellS38_4 HGz8
        have hcz8_5 := cellS38_5 HGz8
        have hcz8_6 := cellS38_6 HGz8
        have hcz8_7 := cellS38_7 HGz8
        have hcz8_8 := cellS38_8 HGz8
        have hcz8_9 := cellS38_9 HGz8
        have hcz8_10 := cellS38_10 HGz8
        have hfz8_0 := blk_frozen HGz8 0
        have hfz8_1 := blk_frozen HGz8 1
        have hfz8_2 := blk_frozen HGz8 2
        have hfz8_3 := blk_frozen HGz8 3
        have hfz8_4 := blk_frozen HGz8 4
        have hfz8_5 := blk_frozen HGz8 5
        have hfz8_6 := blk_frozen HGz8 6
        have hfz8_7 := blk_frozen HGz8 7
        have hfz8_8 := blk_frozen HGz8 8
        have hfz8_9 := blk_frozen HGz8 9
        have hfz8_10 := blk_frozen HGz8 10
        clear HGz8 hgz8
        go_enter Try.func30, Try.ntmps30
        go_wp2
        repeat (go_quiet (fail); try go_wp2)
        go_ret2
        exact ⟨by first | rfl | (simp [errW_none, errW_some] <;> rfl) | (simp [*, errW_none, errW_some] <;> rfl), by repeat (first | (with_reducible first | exact HI0.out | apply IsS38.alloc | apply IsS38.drewN | apply IsS38.drew | apply IsS38.set_0 | apply IsS38.set_1 | apply IsS38.set_2 | apply IsS38.set_3 | apply IsS38.set_4 | apply IsS38.set_5 | apply IsS38.set_6 | apply IsS38.set_7 | apply IsS38.set_8 | apply IsS38.set_9 | apply IsS38.set_10) | exact HI0.out), by repeat (first | (with_reducible first | exact HB.out | apply below_alloc | apply pw_below_drewN | apply below_drew1 | refine below_set ?_ (IsS38.ge HI0.out)) | exact HB.out), by repeat (first | (with_reducible first | exact HK.out | apply KeepBut.set_ | apply keep_drewN | apply keep_drew | apply keep_alloc) | exact HK.out)⟩

/-! ### corrallaw6_CsrBells: function 11 -/
mutual
def corrallaw6_CsrBells.j0 : Nat → Bool → Bool → Bool → Bool → Bool → Bool → Int → Int → Int → Int → Int → Int → Int → Int → Int → Int → Option (Bool)
  | 0, _, _, _, _, _, _, _, _, _, _, _, _, _, _, _, _ => none
  | k + 1, x0, x1, x2, x3, x9, x217000, x217001, x217002, x217003, x217004, x217005, x217006, x217007, x217008, x217009, x217010 => if x2 = true then (corrallaw6_CsrBells.j1 k x0 x1 x2 x3 x9 8 x217000 x217001 x217002 x217003 x217004 x217005 x217006 x217007 x217008 x217009 x217010) else (corrallaw6_CsrBells.j1 k x0 x1 x2 x3 x9 0 x217000 x217001 x217002 x217003 x217004 x217005 x217006 x217007 x217008 x217009 x217010)
def corrallaw6_CsrBells.j1 : Nat → Bool → Bool → Bool → Bool → Bool → Int → Bool → Int → Int → Int → Int → Int → Int → Int → Int → Int → Int → Option (Bool)
  | 0, _, _, _, _, _, _, _, _, _, _, _, _, _, _, _, _, _ => none
  | k + 1, x0, x1, x2, x3, x9, x11, x217000, x217001, x217002, x217003, x217004, x217005, x217006, x217007, x217008, x217009, x217010 => if x3 = true then ((csr_File_Set.f x217000 x217001 x217002 x217003 x217004 x217005 x217006 x217007 x217008 x217009 x217010 768 ((x11 * 16) % 4294967296)).bind fun bt229 => ((csr_File_Return.f bt229.2.1 bt229.2.2.1 bt229.2.2.2.1 bt229.2.2.2.2.1 bt229.2.2.2.2.2.1 bt229.2.2.2.2.2.2.1 bt229.2.2.2.2.2.2.2.1 bt229.2.2.2.2.2.2.2.2.1 bt229.2.2.2.2.2.2.2.2.2.1 bt229.2.2.2.2.2.2.2.2.2.2.1 bt229.2.2.2.2.2.2.2.2.2.2.2).bind fun bt241 => (corrallaw6_CsrBells.j2 k x0 x1 x2 x3 x9 bt241.2.1 bt241.2.2.1 bt241.2.2.2.1 bt241.2.2.2.2.1 bt241.2.2.2.2.2.1 bt241.2.2.2.2.2.2.1 bt241.2.2.2.2.2.2.2.1 bt241.2.2.2.2.2.2.2.2.1 bt241.2.2.2.2.2.2.2.2.2.1 bt241.2.2.2.2.2.2.2.2.2.2.1 bt241.2.2.2.2.2.2.2.2.2.2.2))) else ((csr_File_Set.f x217000 x217001 x217002 x217003 x217004 x217005 x217006 x217007 x217008 x217009 x217010 768 x11).bind fun bt253 => (corrallaw6_CsrBells.j2 k x0 x1 x2 x3 x9 bt253.2.1 bt253.2.2.1 bt253.2.2.2.1 bt253.2.2.2.2.1 bt253.2.2.2.2.2.1 bt253.2.2.2.2.2.2.1 bt253.2.2.2.2.2.2.2.1 bt253.2.2.2.2.2.2.2.2.1 bt253.2.2.2.2.2.2.2.2.2.1 bt253.2.2.2.2.2.2.2.2.2.2.1 bt253.2.2.2.2.2.2.2.2.2.2.2))
def corrallaw6_CsrBells.j2 : Nat → Bool → Bool → Bool → Bool → Bool → Bool → Int → Int → Int → Int → Int → Int → Int → Int → Int → Int → Option (Bool)
  | 0, _, _, _, _, _, _, _, _, _, _, _, _, _, _, _, _ => none
  | k + 1, x0, x1, x2, x3, x9, x217000, x217001, x217002, x217003, x217004, x217005, x217006, x217007, x217008, x217009, x217010 => (csr_File_Bell.f x217000 x217001 x217002 x217003 x217004 x217005 x217006 x217007 x217008 x217009 x217010 x0).bind fun bt265 => ((csr_File_Pending.f bt265.1 bt265.2.1 bt265.2.2.1 bt265.2.2.2.1 bt265.2.2.2.2.1 bt265.2.2.2.2.2.1 bt265.2.2.2.2.2.2.1 bt265.2.2.2.2.2.2.2.1 bt265.2.2.2.2.2.2.2.2.1 bt265.2.2.2.2.2.2.2.2.2.1 bt265.2.2.2.2.2.2.2.2.2.2).bind fun bt276 => (if x0 = true then (if x1 = true then (if x3 = true then (corrallaw6_CsrBells.j3 k x9 bt276.1 bt276.2.1 true bt276.2.2.1 bt276.2.2.2.1 bt276.2.2.2.2.1 bt276.2.2.2.2.2.1 bt276.2.2.2.2.2.2.1 bt276.2.2.2.2.2.2.2.1 bt276.2.2.2.2.2.2.2.2.1 bt276.2.2.2.2.2.2.2.2.2.1 bt276.2.2.2.2.2.2.2.2.2.2.1 bt276.2.2.2.2.2.2.2.2.2.2.2.1 bt276.2.2.2.2.2.2.2.2.2.2.2.2) else (corrallaw6_CsrBells.j3 k x9 bt276.1 bt276.2.1 x2 bt276.2.2.1 bt276.2.2.2.1 bt276.2.2.2.2.1 bt276.2.2.2.2.2.1 bt276.2.2.2.2.2.2.1 bt276.2.2.2.2.2.2.2.1 bt276.2.2.2.2.2.2.2.2.1 bt276.2.2.2.2.2.2.2.2.2.1 bt276.2.2.2.2.2.2.2.2.2.2.1 bt276.2.2.2.2.2.2.2.2.2.2.2.1 bt276.2.2.2.2.2.2.2.2.2.2.2.2)) else (corrallaw6_CsrBells.j3 k x9 bt276.1 bt276.2.1 false bt276.2.2.1 bt276.2.2.2.1 bt276.2.2.2.2.1 bt276.2.2.2.2.2.1 bt276.2.2.2.2.2.2.1 bt276.2.2.2.2.2.2.2.1 bt276.2.2.2.2.2.2.2.2.1 bt276.2.2.2.2.2.2.2.2.2.1 bt276.2.2.2.2.2.2.2.2.2.2.1 bt276.2.2.2.2.2.2.2.2.2.2.2.1 bt276.2.2.2.2.2.2.2.2.2.2.2.2)) else (corrallaw6_CsrBells.j3 k x9 bt276.1 bt276.2.1 false bt276.2.2.1 bt276.2.2.2.1 bt276.2.2.2.2.1 bt276.2.2.2.2.2.1 bt276.2.2.2.2.2.2.1 bt276.2.2.2.2.2.2.2.1 bt276.2.2.2.2.2.2.2.2.1 bt276.2.2.2.2.2.2.2.2.2.1 bt276.2.2.2.2.2.2.2.2.2.2.1 bt276.2.2.2.2.2.2.2.2.2.2.2.1 bt276.2.2.2.2.2.2.2.2.2.2.2.2)))
def corrallaw6_CsrBells.j3 : Nat → Bool → Int → Bool → Bool → Bool → Int → Int → Int → Int → Int → Int → Int → Int → Int → Int → Option (Bool)
  | 0, _, _, _, _, _, _, _, _, _, _, _, _, _, _, _ => none
  | k + 1, x9, x12, x13, x14, x217000, x217001, x217002, x217003, x217004, x217005, x217006, x217007, x217008, x217009, x217010 => if (x13 != x14) = true then (corrallaw6_CsrBells.j4 k x9 x12 true x217000 x217001 x217002 x217003 x217004 x217005 x217006 x217007 x217008 x217009 x217010) else (if x13 = true then (if x12 = 2147483651 then (corrallaw6_CsrBells.j4 k x9 x12 false x217000 x217001 x217002 x217003 x217004 x217005 x217006 x217007 x217008 x217009 x217010) else (corrallaw6_CsrBells.j4 k x9 x12 true x217000 x217001 x217002 x217003 x217004 x217005 x217006 x217007 x217008 x217009 x217010)) else (corrallaw6_CsrBells.j4 k x9 x12 (x12 != 0) x217000 x217001 x217002 x217003 x217004 x217005 x217006 x217007 x217008 x217009 x217010))
def corrallaw6_CsrBells.j4 : Nat → Bool → Int → Bool → Bool → Int → Int → Int → Int → Int → Int → Int → Int → Int → Int → Option (Bool)
  | 0, _, _, _, _, _, _, _, _, _, _, _, _, _, _ => none
  | k + 1, x9, x12, x66, x217000, x217001, x217002, x217003, x217004, x217005, x217006, x217007, x217008, x217009, x217010 => if x66 = true then (some false) else ((csr_File_Trap.f x217000 x217001 x217002 x217003 x217004 x217005 x217006 x217007 x217008 x217009 x217010 x12 0 64).bind fun bt289 => ((csr_File_Pending.f bt289.2.1 bt289.2.2.1 bt289.2.2.2.1 bt289.2.2.2.2.1 bt289.2.2.2.2.2.1 bt289.2.2.2.2.2.2.1 bt289.2.2.2.2.2.2.2.1 bt289.2.2.2.2.2.2.2.2.1 bt289.2.2.2.2.2.2.2.2.2.1 bt289.2.2.2.2.2.2.2.2.2.2.1 bt289.2.2.2.2.2.2.2.2.2.2.2).bind fun bt301 => ((csr_File_Bell.f bt301.2.2.1 bt301.2.2.2.1 bt301.2.2.2.2.1 bt301.2.2.2.2.2.1 bt301.2.2.2.2.2.2.1 bt301.2.2.2.2.2.2.2.1 bt301.2.2.2.2.2.2.2.2.1 bt301.2.2.2.2.2.2.2.2.2.1 bt301.2.2.2.2.2.2.2.2.2.2.1 bt301.2.2.2.2.2.2.2.2.2.2.2.1 bt301.2.2.2.2.2.2.2.2.2.2.2.2 false).bind fun bt314 => ((csr_File_Return.f bt314.1 bt314.2.1 bt314.2.2.1 bt314.2.2.2.1 bt314.2.2.2.2.1 bt314.2.2.2.2.2.1 bt314.2.2.2.2.2.2.1 bt314.2.2.2.2.2.2.2.1 bt314.2.2.2.2.2.2.2.2.1 bt314.2.2.2.2.2.2.2.2.2.1 bt314.2.2.2.2.2.2.2.2.2.2).bind fun bt325 => ((csr_File_Pending.f bt325.2.1 bt325.2.2.1 bt325.2.2.2.1 bt325.2.2.2.2.1 bt325.2.2.2.2.2.1 bt325.2.2.2.2.2.2.1 bt325.2.2.2.2.2.2.2.1 bt325.2.2.2.2.2.2.2.2.1 bt325.2.2.2.2.2.2.2.2.2.1 bt325.2.2.2.2.2.2.2.2.2.2.1 bt325.2.2.2.2.2.2.2.2.2.2.2).bind fun bt337 => (if x9 = true then (if bt301.2.1 = true then (some false) else (some (!bt337.2.1))) else (some false)))))))
end
def corrallaw6_CsrBells.f (k : Nat) (a0 : Bool) (a1 : Bool) (a2 : Bool) (a3 : Bool) : Option (Bool) := (corrallaw6_first.f).bind fun t204 => (if t204 = true then ((csr_New.f 0).bind fun bt205 => (if a1 = true then ((csr_File_Set.f bt205.1 bt205.2.1 bt205.2.2.1 bt205.2.2.2.1 bt205.2.2.2.2.1 bt205.2.2.2.2.2.1 bt205.2.2.2.2.2.2.1 bt205.2.2.2.2.2.2.2.1 bt205.2.2.2.2.2.2.2.2.1 bt205.2.2.2.2.2.2.2.2.2.1 bt205.2.2.2.2.2.2.2.2.2.2 772 8).bind fun bt217 => (corrallaw6_CsrBells.j0 k a0 a1 a2 a3 t204 bt217.2.1 bt217.2.2.1 bt217.2.2.2.1 bt217.2.2.2.2.1 bt217.2.2.2.2.2.1 bt217.2.2.2.2.2.2.1 bt217.2.2.2.2.2.2.2.1 bt217.2.2.2.2.2.2.2.2.1 bt217.2.2.2.2.2.2.2.2.2.1 bt217.2.2.2.2.2.2.2.2.2.2.1 bt217.2.2.2.2.2.2.2.2.2.2.2)) else (corrallaw6_CsrBells.j0 k a0 a1 a2 a3 t204 bt205.1 bt205.2.1 bt205.2.2.1 bt205.2.2.2.1 bt205.2.2.2.2.1 bt205.2.2.2.2.2.1 bt205.2.2.2.2.2.2.1 bt205.2.2.2.2.2.2.2.1 bt205.2.2.2.2.2.2.2.2.1 bt205.2.2.2.2.2.2.2.2.2.1 bt205.2.2.2.2.2.2.2.2.2.2))) else (some false))
theorem corrallaw6_CsrBells.mono_l : ∀ k, (∀ y0 y1 y2 y3 y4 y5 y6 y7 y8 y9 y10 y11 y12 y13 y14 y15, LeO (corrallaw6_CsrBells.j0 k y0 y1 y2 y3 y4 y5 y6 y7 y8 y9 y10 y11 y12 y13 y14 y15) (corrallaw6_CsrBells.j0 (k + 1) y0 y1 y2 y3 y4 y5 y6 y7 y8 y9 y10 y11 y12 y13 y14 y15)) ∧ (∀ y0 y1 y2 y3 y4 y5 y6 y7 y8 y9 y10 y11 y12 y13 y14 y15 y16, LeO (corrallaw6_CsrBells.j1 k y0 y1 y2 y3 y4 y5 y6 y7 y8 y9 y10 y11 y12 y13 y14 y15 y16) (corrallaw6_CsrBells.j1 (k + 1) y0 y1 y2 y3 y4 y5 y6 y7 y8 y9 y10 y11 y12 y13 y14 y15 y16)) ∧ (∀ y0 y1 y2 y3 y4 y5 y6 y7 y8 y9 y10 y11 y12 y13 y14 y15, LeO (corrallaw6_CsrBells.j2 k y0 y1 y2 y3 y4 y5 y6 y7 y8 y9 y10 y11 y12 y13 y14 y15) (corrallaw6_CsrBells.j2 (k + 1) y0 y1 y2 y3 y4 y5 y6 y7 y8 y9 y10 y11 y12 y13 y14 y15)) ∧ (∀ y0 y1 y2 y3 y4 y5 y6 y7 y8 y9 y10 y11 y12 y13 y14, LeO (corrallaw6_CsrBells.j3 k y0 y1 y2 y3 y4 y5 y6 y7 y8 y9 y10 y11 y12 y13 y14) (corrallaw6_CsrBells.j3 (k + 1) y0 y1 y2 y3 y4 y5 y6 y7 y8 y9 y10 y11 y12 y13 y14)) ∧ (∀ y0 y1 y2 y3 y4 y5 y6 y7 y8 y9 y10 y11 y12 y13, LeO (corrallaw6_CsrBells.j4 k y0 y1 y2 y3 y4 y5 y6 y7 y8 y9 y10 y11 y12 y13) (corrallaw6_CsrBells.j4 (k + 1) y0 y1 y2 y3 y4 y5 y6 y7 y8 y9 y10 y11 y12 y13))
  | 0 => ⟨fun _ _ _ _ _ _ _ _ _ _ _ _ _ _ _ _ r h => by simp [corrallaw6_CsrBells.j0] at h, fun _ _ _ _ _ _ _ _ _ _ _ _ _ _ _ _ _ r h => by simp [corrallaw6_CsrBells.j1] at h, fun _ _ _ _ _ _ _ _ _ _ _ _ _ _ _ _ r h => by simp [corrallaw6_CsrBells.j2] at h, fun _ _ _ _ _ _ _ _ _ _ _ _ _ _ _ r h => by simp [corrallaw6_CsrBells.j3] at h, fun _ _ _ _ _ _ _ _ _ _ _ _ _ _ r h => by simp [corrallaw6_CsrBells.j4] at h⟩
  | k + 1 => by
    obtain ⟨ih0, ih1, ih2, ih3, ih4⟩ := corrallaw6_CsrBells.mono_l k
    refine ⟨?_, ?_, ?_, ?_, ?_⟩
    · intro y0 y1 y2 y3 y4 y5 y6 y7 y8 y9 y10 y11 y12 y13 y14 y15
      unfold corrallaw6_CsrBells.j0
      repeat' first
      | (with_reducible exact ih0 _ _ _ _ _ _ _ _ _ _ _ _ _ _ _ _)
      | (with_reducible exact ih1 _ _ _ _ _ _ _ _ _ _ _ _ _ _ _ _ _)
      | (with_reducible exact ih2 _ _ _ _ _ _ _ _ _ _ _ _ _ _ _ _)
      | (with_reducible exact ih3 _ _ _ _ _ _ _ _ _ _ _ _ _ _ _)
      | (with_reducible exact ih4 _ _ _ _ _ _ _ _ _ _ _ _ _ _)
      | (with_reducible exact LeO.refl _)
      | (with_reducible exact LeO.none _)
      | (with_reducible refine LeO.ite ?_ ?_)
      | (with_reducible refine LeO.bind ?_ (fun _ => ?_))
      | exact ih0 _ _ _ _ _ _ _ _ _ _ _ _ _ _ _ _
      | exact ih1 _ _ _ _ _ _ _ _ _ _ _ _ _ _ _ _ _
      | exact ih2 _ _ _ _ _ _ _ _ _ _ _ _ _ _ _ _
      | exact ih3 _ _ _ _ _ _ _ _ _ _ _ _ _ _ _
      | exact ih4 _ _ _ _ _ _ _ _ _ _ _ _ _ _
      | exact LeO.none _
      | refine LeO.ite ?_ ?_
      | refine LeO.bind ?_ (fun _ => ?_)
    · intro y0 y1 y2 y3 y4 y5 y6 y7 y8 y9 y10 y11 y12 y13 y14 y15 y16
      unfold corrallaw6_CsrBells.j1
      repeat' first
      | (with_reducible exact ih0 _ _ _ _ _ _ _ _ _ _ _ _ _ _ _ _)
      | (with_reducible exact ih1 _ _ _ _ _ _ _ _ _ _ _ _ _ _ _ _ _)
      | (with_reducible exact ih2 _ _ _ _ _ _ _ _ _ _ _ _ _ _ _ _)
      | (with_reducible exact ih3 _ _ _ _ _ _ _ _ _ _ _ _ _ _ _)
      | (with_reducible exact ih4 _ _ _ _ _ _ _ _ _ _ _ _ _ _)
      | (with_reducible exact LeO.refl _)
      | (with_reducible exact LeO.none _)
      | (with_reducible refine LeO.ite ?_ ?_)
      | (with_reducible refine LeO.bind ?_ (fun _ => ?_))
      | exact ih0 _ _ _ _ _ _ _ _ _ _ _ _ _ _ _ _
      | exact ih1 _ _ _ _ _ _ _ _ _ _ _ _ _ _ _ _ _
      | exact ih2 _ _ _ _ _ _ _ _ _ _ _ _ _ _ _ _
      | exact ih3 _ _ _ _ _ _ _ _ _ _ _ _ _ _ _
      | exact ih4 _ _ _ _ _ _ _ _ _ _ _ _ _ _
      | exact LeO.none _
      | refine LeO.ite ?_ ?_
      | refine LeO.bind ?_ (fun _ => ?_)
    · intro y0 y1 y2 y3 y4 y5 y6 y7 y8 y9 y10 y11 y12 y13 y14 y15
      unfold corrallaw6_CsrBells.j2
      repeat' first
      | (with_reducible exact ih0 _ _ _ _ _ _ _ _ _ _ _ _ _ _ _ _)
      | (with_reducible exact ih1 _ _ _ _ _ _ _ _ _ _ _ _ _ _ _ _ _)
      | (with_reducible exact ih2 _ _ _ _ _ _ _ _ _ _ _ _ _ _ _ _)
      | (with_reducible exact ih3 _ _ _ _ _ _ _ _ _ _ _ _ _ _ _)
      | (with_reducible exact ih4 _ _ _ _ _ _ _ _ _ _ _ _ _ _)
      | (with_reducible exact LeO.refl _)
      | (with_reducible exact LeO.none _)
      | (with_reducible refine LeO.ite ?_ ?_)
      | (with_reducible refine LeO.bind ?_ (fun _ => ?_))
      | exact ih0 _ _ _ _ _ _ _ _ _ _ _ _ _ _ _ _
      | exact ih1 _ _ _ _ _ _ _ _ _ _ _ _ _ _ _ _ _
      | exact ih2 _ _ _ _ _ _ _ _ _ _ _ _ _ _ _ _
      | exact ih3 _ _ _ _ _ _ _ _ _ _ _ _ _ _ _
      | exact ih4 _ _ _ _ _ _ _ _ _ _ _ _ _ _
      | exact LeO.none _
      | refine LeO.ite ?_ ?_
      | refine LeO.bind ?_ (fun _ => ?_)
    · intro y0 y1 y2 y3 y4 y5 y6 y7 y8 y9 y10 y11 y12 y13 y14
      unfold corrallaw6_CsrBells.j3
      repeat' first
      | (with_reducible exact ih0 _ _ _ _ _ _ _ _ _ _ _ _ _ _ _ _)
      | (with_reducible exact ih1 _ _ _ _ _ _ _ _ _ _ _ _ _ _ _ _ _)
      | (with_reducible exact ih2 _ _ _ _ _ _ _ _ _ _ _ _ _ _ _ _)
      | (with_reducible exact ih3 _ _ _ _ _ _ _ _ _ _ _ _ _ _ _)
      | (with_reducible exact ih4 _ _ _ _ _ _ _ _ _ _ _ _ _ _)
      | (with_reducible exact LeO.refl _)
      | (with_reducible exact LeO.none _)
      | (with_reducible refine LeO.ite ?_ ?_)
      | (with_reducible refine LeO.bind ?_ (fun _ => ?_))
      | exact ih0 _ _ _ _ _ _ _ _ _ _ _ _ _ _ _ _
      | exact ih1 _ _ _ _ _ _ _ _ _ _ _ _ _ _ _ _ _
      | exact ih2 _ _ _ _ _ _ _ _ _ _ _ _ _ _ _ _
      | exact ih3 _ _ _ _ _ _ _ _ _ _ _ _ _ _ _
      | exact ih4 _ _ _ _ _ _ _ _ _ _ _ _ _ _
      | exact LeO.none _
      | refine LeO.ite ?_ ?_
      | refine LeO.bind ?_ (fun _ => ?_)
    · intro y0 y1 y2 y3 y4 y5 y6 y7 y8 y9 y10 y11 y12 y13
      unfold corrallaw6_CsrBells.j4
      repeat' first
      | (with_reducible exact ih0 _ _ _ _ _ _ _ _ _ _ _ _ _ _ _ _)
      | (with_reducible exact ih1 _ _ _ _ _ _ _ _ _ _ _ _ _ _ _ _ _)
      | (with_reducible exact ih2 _ _ _ _ _ _ _ _ _ _ _ _ _ _ _ _)
      | (with_reducible exact ih3 _ _ _ _ _ _ _ _ _ _ _ _ _ _ _)
      | (with_reducible exact ih4 _ _ _ _ _ _ _ _ _ _ _ _ _ _)
      | (with_reducible exact LeO.refl _)
      | (with_reducible exact LeO.none _)
      | (with_reducible refine LeO.ite ?_ ?_)
      | (with_reducible refine LeO.bind ?_ (fun _ => ?_))
      | exact ih0 _ _ _ _ _ _ _ _ _ _ _ _ _ _ _ _
      | exact ih1 _ _ _ _ _ _ _ _ _ _ _ _ _ _ _ _ _
      | exact ih2 _ _ _ _ _ _ _ _ _ _ _ _ _ _ _ _
      | exact ih3 _ _ _ _ _ _ _ _ _ _ _ _ _ _ _
      | exact ih4 _ _ _ _ _ _ _ _ _ _ _ _ _ _
      | exact LeO.none _
      | refine LeO.ite ?_ ?_
      | refine LeO.bind ?_ (fun _ => ?_)
theorem corrallaw6_CsrBells.mono : ∀ a0 a1 a2 a3 k, LeO (corrallaw6_CsrBells.f k a0 a1 a2 a3) (corrallaw6_CsrBells.f (k + 1) a0 a1 a2 a3) := by
  intro a0 a1 a2 a3 k
  obtain ⟨ih0, ih1, ih2, ih3, ih4⟩ := corrallaw6_CsrBells.mono_l k
  unfold corrallaw6_CsrBells.f
  repeat' first
      | (with_reducible exact ih0 _ _ _ _ _ _ _ _ _ _ _ _ _ _ _ _)
      | (with_reducible exact ih1 _ _ _ _ _ _ _ _ _ _ _ _ _ _ _ _ _)
      | (with_reducible exact ih2 _ _ _ _ _ _ _ _ _ _ _ _ _ _ _ _)
      | (with_reducible exact ih3 _ _ _ _ _ _ _ _ _ _ _ _ _ _ _)
      | (with_reducible exact ih4 _ _ _ _ _ _ _ _ _ _ _ _ _ _)
      | (with_reducible exact LeO.refl _)
      | (with_reducible exact LeO.none _)
      | (with_reducible refine LeO.ite ?_ ?_)
      | (with_reducible refine LeO.bind ?_ (fun _ => ?_))
      | exact ih0 _ _ _ _ _ _ _ _ _ _ _ _ _ _ _ _
      | exact ih1 _ _ _ _ _ _ _ _ _ _ _ _ _ _ _ _ _
      | exact ih2 _ _ _ _ _ _ _ _ _ _ _ _ _ _ _ _
      | exact ih3 _ _ _ _ _ _ _ _ _ _ _ _ _ _ _
      | exact ih4 _ _ _ _ _ _ _ _ _ _ _ _ _ _
      | exact LeO.none _
      | refine LeO.ite ?_ ?_
      | refine LeO.bind ?_ (fun _ => ?_)
set_option maxHeartbeats 8000000 in
set_option maxRecDepth 100000 in
theorem corrallaw6_CsrBells.calls (k : Nat) (a0 : Bool) (a1 : Bool) (a2 : Bool) (a3 : Bool) (r : Bool) (w : World) (h : corrallaw6_CsrBells.f k a0 a1 a2 a3 = some r) (hrtrue : r = true) :
    Calls Try.prog 11 #[.bool a0, .bool a1, .bool a2, .bool a3] w fun e w' => e = .returned (.bool r) ∧ Below w.heap.size w w' := by
  have hu38 := Try.underlying38
  have HB := Aside0.mk (Below.refl w.heap.size w)
  have H : ((corrallaw6_first.f).bind fun t204 => (if t204 = true then ((csr_New.f 0).bind fun bt205 => (if a1 = true then ((csr_File_Set.f bt205.1 bt205.2.1 bt205.2.2.1 bt205.2.2.2.1 bt205.2.2.2.2.1 bt205.2.2.2.2.2.1 bt205.2.2.2.2.2.2.1 bt205.2.2.2.2.2.2.2.1 bt205.2.2.2.2.2.2.2.2.1 bt205.2.2.2.2.2.2.2.2.2.1 bt205.2.2.2.2.2.2.2.2.2.2 772 8).bind fun bt217 => (corrallaw6_CsrBells.j0 k a0 a1 a2 a3 t204 bt217.2.1 bt217.2.2.1 bt217.2.2.2.1 bt217.2.2.2.2.1 bt217.2.2.2.2.2.1 bt217.2.2.2.2.2.2.1 bt217.2.2.2.2.2.2.2.1 bt217.2.2.2.2.2.2.2.2.1 bt217.2.2.2.2.2.2.2.2.2.1 bt217.2.2.2.2.2.2.2.2.2.2.1 bt217.2.2.2.2.2.2.2.2.2.2.2)) else (corrallaw6_CsrBells.j0 k a0 a1 a2 a3 t204 bt205.1 bt205.2.1 bt205.2.2.1 bt205.2.2.2.1 bt205.2.2.2.2.1 bt205.2.2.2.2.2.1 bt205.2.2.2.2.2.2.1 bt205.2.2.2.2.2.2.2.1 bt205.2.2.2.2.2.2.2.2.1 bt205.2.2.2.2.2.2.2.2.2.1 bt205.2.2.2.2.2.2.2.2.2.2))) else (some false))) = some r := h
  clear h
  have HRT := Aside0.mk hrtrue
  clear hrtrue
  replace H := Option.bind_eq_some_iff.mp H
  obtain ⟨t204, A50, H⟩ := H
  replace H : (if t204 = true then ((csr_New.f 0).bind fun bt205 => (if a1 = true then ((csr_File_Set.f bt205.1 bt205.2.1 bt205.2.2.1 bt205.2.2.2.1 bt205.2.2.2.2.1 bt205.2.2.2.2.2.1 bt205.2.2.2.2.2.2.1 bt205.2.2.2.2.2.2.2.1 bt205.2.2.2.2.2.2.2.2.1 bt205.2.2.2.2.2.2.2.2.2.1 bt205.2.2.2.2.2.2.2.2.2.2 772 8).bind fun bt217 => (corrallaw6_CsrBells.j0 k a0 a1 a2 a3 t204 bt217.2.1 bt217.2.2.1 bt217.2.2.2.1 bt217.2.2.2.2.1 bt217.2.2.2.2.2.1 bt217.2.2.2.2.2.2.1 bt217.2.2.2.2.2.2.2.1 bt217.2.2.2.2.2.2.2.2.1 bt217.2.2.2.2.2.2.2.2.2.1 bt217.2.2.2.2.2.2.2.2.2.2.1 bt217.2.2.2.2.2.2.2.2.2.2.2)) else (corrallaw6_CsrBells.j0 k a0 a1 a2 a3 t204 bt205.1 bt205.2.1 bt205.2.2.1 bt205.2.2.2.1 bt205.2.2.2.2.1 bt205.2.2.2.2.2.1 bt205.2.2.2.2.2.2.1 bt205.2.2.2.2.2.2.2.1 bt205.2.2.2.2.2.2.2.2.1 bt205.2.2.2.2.2.2.2.2.2.1 bt205.2.2.2.2.2.2.2.2.2.2))) else (some false)) = some r := H
  have A5 := Aside0.mk A50
  clear A50
  by_cases c6 : t204 = true
  · subst c6
    have H1 : ((csr_New.f 0).bind fun bt205 => (if a1 = true then ((csr_File_Set.f bt205.1 bt205.2.1 bt205.2.2.1 bt205.2.2.2.1 bt205.2.2.2.2.1 bt205.2.2.2.2.2.1 bt205.2.2.2.2.2.2.1 bt205.2.2.2.2.2.2.2.1 bt205.2.2.2.2.2.2.2.2.1 bt205.2.2.2.2.2.2.2.2.2.1 bt205.2.2.2.2.2.2.2.2.2.2 772 8).bind fun bt217 => (corrallaw6_CsrBells.j0 k a0 a1 a2 a3 true bt217.2.1 bt217.2.2.1 bt217.2.2.2.1 bt217.2.2.2.2.1 bt217.2.2.2.2.2.1 bt217.2.2.2.2.2.2.1 bt217.2.2.2.2.2.2.2.1 bt217.2.2.2.2.2.2.2.2.1 bt217.2.2.2.2.2.2.2.2.2.1 bt217.2.2.2.2.2.2.2.2.2.2.1 bt217.2.2.2.2.2.2.2.2.2.2.2)) else (corrallaw6_CsrBells.j0 k a0 a1 a2 a3 true bt205.1 bt205.2.1 bt205.2.2.1 bt205.2.2.2.1 bt205.2.2.2.2.1 bt205.2.2.2.2.2.1 bt205.2.2.2.2.2.2.1 bt205.2.2.2.2.2.2.2.1 bt205.2.2.2.2.2.2.2.2.1 bt205.2.2.2.2.2.2.2.2.2.1 bt205.2.2.2.2.2.2.2.2.2.2))) = some r := by rw [if_pos rfl] at H; exact H
    clear H
    have H := H1
    clear H1
    replace H := Option.bind_eq_some_iff.mp H
    obtain ⟨⟨t205, t206, t207, t208, t209, t210, t211, t212, t213, t214, t215⟩, A70, H⟩ := H
    replace H : (if a1 = true then ((csr_File_Set.f t205 t206 t207 t208 t209 t210 t211 t212 t213 t214 t215 772 8).bind fun bt217 => (corrallaw6_CsrBells.j0 k a0 a1 a2 a3 true bt217.2.1 bt217.2.2.1 bt217.2.2.2.1 bt217.2.2.2.2.1 bt217.2.2.2.2.2.1 bt217.2.2.2.2.2.2.1 bt217.2.2.2.2.2.2.2.1 bt217.2.2.2.2.2.2.2.2.1 bt217.2.2.2.2.2.2.2.2.2.1 bt217.2.2.2.2.2.2.2.2.2.2.1 bt217.2.2.2.2.2.2.2.2.2.2.2)) else (corrallaw6_CsrBells.j0 k a0 a1 a2 a3 true t205 t206 t207 t208 t209 t210 t211 t212 t213 t214 t215)) = some r := H
    have A7 := Aside0.mk A70
    clear A70
    have HC8 := Aside0.mk H
    clear H
    go_enter Try.func11, Try.ntmps11
    go_upto_if 23 with (first | ((with_reducible refine gate_callee (f := 20) rfl ?_); refine goesL_ (some 19) rfl rfl Try.func20 (by kernel_rfl) rfl #[] rfl (by (try simp only [List.map_toArray, List.map_cons, List.map_nil]); first | done | rfl | (simp only [List.length_drop, List.length_take]; rfl)) ?_; (with_reducible refine (corrallaw6_first.calls  true _ A5.out).mono ?_); rintro e w9 ⟨rfl, hb⟩; refine ⟨_, rfl, ?_⟩; have n0_ := Aside0.mk (below_step (by repeat (first | (with_reducible first | exact HB.out | apply below_alloc | apply pw_below_drewN | apply below_drew1) | exact HB.out)) hb); clear HB; have HB := n0_; clear n0_; (try clear hb); (try clear hb2); (try clear hk); (try clear hi)) | ((with_reducible refine gate_callee (f := 21) rfl ?_); refine goesL_ (some 22) rfl rfl Try.func21 (by kernel_rfl) rfl #[.int .i64 0] rfl (by (try simp only [List.map_toArray, List.map_cons, List.map_nil]); first | done | rfl | (simp only [List.length_drop, List.length_take]; rfl)) ?_; (with_reducible refine (csr_New.calls 0 t205 t206 t207 t208 t209 t210 t211 t212 t213 t214 t215 _ A7.out).mono ?_); rintro e w10 ⟨rfl, hb⟩; refine ⟨_, rfl, ?_⟩; have n0_ := Aside0.mk (below_step (by repeat (first | (with_reducible first | exact HB.out | apply below_alloc | apply pw_below_drewN | apply below_drew1) | exact HB.out)) hb); clear HB; have HB := n0_; clear n0_; (try clear hb); (try clear hb2); (try clear hk); (try clear hi)) | ((with_reducible refine gate_dst (N := 10) rfl ?_); refine box_event ?hg (N := 10) ?hd (cs := #[.bool false, .int .u32 0, .int .u32 0, .int .u32 0, .int .u32 0, .int .u32 0, .int .u32 0, .int .u32 0, .int .u32 0, .int .u32 0, .int .u32 0]) (t := 38) ?hr ?_; (case hd => rfl); (case hg => rfl); (case hr => first | (go_simp; done) | (go_simp; rfl)); intro gb216 hg w11 hbox hb; have n0_ := Aside0.mk (below_step (by repeat (first | (with_reducible first | exact HB.out | apply below_alloc | apply pw_below_drewN | apply below_drew1) | exact HB.out)) hb); have n1_ := Aside0.mk (hbox); have n2_ := Aside0.mk ((by rw [hg]; exact (below_size (by repeat (first | (with_reducible first | exact HB.out | apply below_alloc | apply pw_below_drewN | apply below_drew1) | exact HB.out))) : w.heap.size ≤ gb216)); have n3_ := Aside0.mk ((by rw [hg]; exact (below_size (by repeat (first | (with_reducible first | exact HB.out | apply below_alloc | apply pw_below_drewN | apply below_drew1) | exact HB.out))) : w.heap.size ≤ gb216)); clear HB; have HB := n0_; have BK216 := n1_; have GW216 := n2_; have GE216 := n3_; clear n0_ n1_ n2_ n3_; clear hb hbox hg; have hcz12_0 : w11.cell? ⟨gb216, 0, none⟩ = some (.bool false) := (blk_cell BK216.out 0).trans rfl; have hcz12_1 : w11.cell? ⟨gb216, 1, none⟩ = some (.int .u32 0) := (blk_cell BK216.out 1).trans rfl; have hcz12_2 : w11.cell? ⟨gb216, 2, none⟩ = some (.int .u32 0) := (blk_cell BK216.out 2).trans rfl; have hcz12_3 : w11.cell? ⟨gb216, 3, none⟩ = some (.int .u32 0) := (blk_cell BK216.out 3).trans rfl; have hcz12_4 : w11.cell? ⟨gb216, 4, none⟩ = some (.int .u32 0) := (blk_cell BK216.out 4).trans rfl; have hcz12_5 : w11.cell? ⟨gb216, 5, none⟩ = some (.int .u32 0) := (blk_cell BK216.out 5).trans rfl; have hcz12_6 : w11.cell? ⟨gb216, 6, none⟩ = some (.int .u32 0) := (blk_cell BK216.out 6).trans rfl; have hcz12_7 : w11.cell? ⟨gb216, 7, none⟩ = some (.int .u32 0) := (blk_cell BK216.out 7).trans rfl; have hcz12_8 : w11.cell? ⟨gb216, 8, none⟩ = some (.int .u32 0) := (blk_cell BK216.out 8).trans rfl; have hcz12_9 : w11.cell? ⟨gb216, 9, none⟩ = some (.int .u32 0) := (blk_cell BK216.out 9).trans rfl; have hcz12_10 : w11.cell? ⟨gb216, 10, none⟩ = some (.int .u32 0) := (blk_cell BK216.out 10).trans rfl; have hfz12_0 := blk_frozen BK216.out 0; have hfz12_1 := blk_frozen BK216.out 1; have hfz12_2 := blk_frozen BK216.out 2; have hfz12_3 := blk_frozen BK216.out 3; have hfz12_4 := blk_frozen BK216.out 4; have hfz12_5 := blk_frozen BK216.out 5; have hfz12_6 := blk_frozen BK216.out 6; have hfz12_7 := blk_frozen BK216.out 7; have hfz12_8 := blk_frozen BK216.out 8; have hfz12_9 := blk_frozen BK216.out 9; have hfz12_10 := blk_frozen BK216.out 10))
    (try simp only [Act.put, List.setIfInBounds_toArray, List.set_cons_zero, List.set_cons_succ])
    go_cut [] (fun wc => ∃ (kq : Nat) (x217000_7 : Bool) (x217001_7 : Int) (x217002_7 : Int) (x217003_7 : Int) (x217004_7 : Int) (x217005_7 : Int) (x217006_7 : Int) (x217007_7 : Int) (x217008_7 : Int) (x217009_7 : Int) (x217010_7 : Int), Aside0 (corrallaw6_CsrBells.j0 kq a0 a1 a2 a3 true x217000_7 x217001_7 x217002_7 x217003_7 x217004_7 x217005_7 x217006_7 x217007_7 x217008_7 x217009_7 x217010_7 = some r) ∧ Aside0 (kq ≤ k) ∧ Aside0 (wc.heap[gb216]? = some (.cells #[.bool x217000_7, .int .u32 x217001_7, .int .u32 x217002_7, .int .u32 x217003_7, .int .u32 x217004_7, .int .u32 x217005_7, .int .u32 x217006_7, .int .u32 x217007_7, .int .u32 x217008_7, .int .u32 x217009_7, .int .u32 x217010_7] 38 (0, 0))) ∧ Aside0 (Below w.heap.size w wc))
    case first =>
      have H := HC8.out
      clear HC8
      by_cases c13 : a1 = true
      · subst c13
        have H1 : ((csr_File_Set.f t205 t206 t207 t208 t209 t210 t211 t212 t213 t214 t215 772 8).bind fun bt217 => (corrallaw6_CsrBells.j0 k a0 true a2 a3 true bt217.2.1 bt217.2.2.1 bt217.2.2.2.1 bt217.2.2.2.2.1 bt217.2.2.2.2.2.1 bt217.2.2.2.2.2.2.1 bt217.2.2.2.2.2.2.2.1 bt217.2.2.2.2.2.2.2.2.1 bt217.2.2.2.2.2.2.2.2.2.1 bt217.2.2.2.2.2.2.2.2.2.2.1 bt217.2.2.2.2.2.2.2.2.2.2.2)) = some r := by rw [if_pos rfl] at H; exact H
        clear H
        have H := H1
        clear H1
        replace H := Option.bind_eq_some_iff.mp H
        obtain ⟨⟨t217, t218, t219, t220, t221, t222, t223, t224, t225, t226, t227, t228⟩, A140, H⟩ := H
        replace H : (corrallaw6_CsrBells.j0 k a0 true a2 a3 true t218 t219 t220 t221 t222 t223 t224 t225 t226 t227 t228) = some r := H
        have A14 := Aside0.mk A140
        clear A140
        have H' := Aside0.mk H
        clear H
        go_wp2_with (first | ((with_reducible refine gate_callee (f := 22) rfl ?_); refine goesL_ (some 24) rfl rfl Try.func22 (by kernel_rfl) rfl #[.pointer (some ⟨gb216, 0, none⟩), .int .i64 772, .int .u32 8] rfl (by (try simp only [List.map_toArray, List.map_cons, List.map_nil]); first | done | rfl | (simp only [List.length_drop, List.length_take]; rfl)) ?_; (with_reducible refine (csr_File_Set.calls gb216 t205 t206 t207 t208 t209 t210 t211 t212 t213 t214 t215 772 8 t217 t218 t219 t220 t221 t222 t223 t224 t225 t226 t227 t228 w _ ?side1 ?side2 A14.out).mono ?_); (case side1 => exact And.intro (by (with_reducible repeat (first | refine blk_drewN ?_ _ | refine blk_drew ?_ | refine blk_alloc ?_ _)); refine blk_put (cs := #[.bool t205, .int .u32 t206, .int .u32 t207, .int .u32 t208, .int .u32 t209, .int .u32 t210, .int .u32 t211, .int .u32 t212, .int .u32 t213, .int .u32 t214, .int .u32 0]) ?_ 10 _ rfl; (with_reducible repeat (first | refine blk_drewN ?_ _ | refine blk_drew ?_ | refine blk_alloc ?_ _)); refine blk_put (cs := #[.bool t205, .int .u32 t206, .int .u32 t207, .int .u32 t208, .int .u32 t209, .int .u32 t210, .int .u32 t211, .int .u32 t212, .int .u32 t213, .int .u32 0, .int .u32 0]) ?_ 9 _ rfl; (with_reducible repeat (first | refine blk_drewN ?_ _ | refine blk_drew ?_ | refine blk_alloc ?_ _)); refine blk_put (cs := #[.bool t205, .int .u32 t206, .int .u32 t207, .int .u32 t208, .int .u32 t209, .int .u32 t210, .int .u32 t211, .int .u32 t212, .int .u32 0, .int .u32 0, .int .u32 0]) ?_ 8 _ rfl; (with_reducible repeat (first | refine blk_drewN ?_ _ | refine blk_drew ?_ | refine blk_alloc ?_ _)); refine blk_put (cs := #[.bool t205, .int .u32 t206, .int .u32 t207, .int .u32 t208, .int .u32 t209, .int .u32 t210, .int .u32 t211, .int .u32 0, .int .u32 0, .int .u32 0, .int .u32 0]) ?_ 7 _ rfl; (with_reducible repeat (first | refine blk_drewN ?_ _ | refine blk_drew ?_ | refine blk_alloc ?_ _)); refine blk_put (cs := #[.bool t205, .int .u32 t206, .int .u32 t207, .int .u32 t208, .int .u32 t209, .int .u32 t210, .int .u32 0, .int .u32 0, .int .u32 0, .int .u32 0, .int .u32 0]) ?_ 6 _ rfl; (with_reducible repeat (first | refine blk_drewN ?_ _ | refine blk_drew ?_ | refine blk_alloc ?_ _)); refine blk_put (cs := #[.bool t205, .int .u32 t206, .int .u32 t207, .int .u32 t208, .int .u32 t209, .int .u32 0, .int .u32 0, .int .u32 0, .int .u32 0, .int .u32 0, .int .u32 0]) ?_ 5 _ rfl; (with_reducible repeat (first | refine blk_drewN ?_ _ | refine blk_drew ?_ | refine blk_alloc ?_ _)); refine blk_put (cs := #[.bool t205, .int .u32 t206, .int .u32 t207, .int .u32 t208, .int .u32 0, .int .u32 0, .int .u32 0, .int .u32 0, .int .u32 0, .int .u32 0, .int .u32 0]) ?_ 4 _ rfl; (with_reducible repeat (first | refine blk_drewN ?_ _ | refine blk_drew ?_ | refine blk_alloc ?_ _)); refine blk_put (cs := #[.bool t205, .int .u32 t206, .int .u32 t207, .int .u32 0, .int .u32 0, .int .u32 0, .int .u32 0, .int .u32 0, .int .u32 0, .int .u32 0, .int .u32 0]) ?_ 3 _ rfl; (with_reducible repeat (first | refine blk_drewN ?_ _ | refine blk_drew ?_ | refine blk_alloc ?_ _)); refine blk_put (cs := #[.bool t205, .int .u32 t206, .int .u32 0, .int .u32 0, .int .u32 0, .int .u32 0, .int .u32 0, .int .u32 0, .int .u32 0, .int .u32 0, .int .u32 0]) ?_ 2 _ rfl; (with_reducible repeat (first | refine blk_drewN ?_ _ | refine blk_drew ?_ | refine blk_alloc ?_ _)); refine blk_put (cs := #[.bool t205, .int .u32 0, .int .u32 0, .int .u32 0, .int .u32 0, .int .u32 0, .int .u32 0, .int .u32 0, .int .u32 0, .int .u32 0, .int .u32 0]) ?_ 1 _ rfl; (with_reducible repeat (first | refine blk_drewN ?_ _ | refine blk_drew ?_ | refine blk_alloc ?_ _)); refine blk_put (cs := #[.bool false, .int .u32 0, .int .u32 0, .int .u32 0, .int .u32 0, .int .u32 0, .int .u32 0, .int .u32 0, .int .u32 0, .int .u32 0, .int .u32 0]) ?_ 0 _ rfl; (with_reducible repeat (first | refine blk_drewN ?_ _ | refine blk_drew ?_ | refine blk_alloc ?_ _)); exact BK216.out) GW216.out); (case side2 => repeat (first | (with_reducible first | exact HB.out | apply below_alloc | apply pw_below_drewN | apply below_drew1 | refine below_set ?_ GE216.out) | exact HB.out)); rintro e w15 ⟨rfl, hi, hb, hk⟩; refine ⟨_, rfl, ?_⟩; have n0_ := Aside0.mk (hb); have n1_ := Aside0.mk ((And.left hi)); clear HB; clear BK216; have HB := n0_; have BK216 := n1_; clear n0_ n1_; (try clear hb); (try clear hb2); (try clear hk); (try clear hi)))
        go_meet
        case rel => exact ⟨_, (t218), (t219), (t220), (t221), (t222), (t223), (t224), (t225), (t226), (t227), (t228), H', ⟨by first | omega | exact Nat.le_refl _⟩, ⟨by (with_reducible repeat (first | refine blk_drewN ?_ _ | refine blk_drew ?_ | refine blk_alloc ?_ _)); exact BK216.out⟩, ⟨by repeat (first | (with_reducible first | exact HB.out | apply below_alloc | apply pw_below_drewN | apply below_drew1 | refine below_set ?_ GE216.out) | exact HB.out)⟩⟩
      · replace c13 := Bool.eq_false_iff.mpr c13
        subst c13
        have H1 : (corrallaw6_CsrBells.j0 k a0 false a2 a3 true t205 t206 t207 t208 t209 t210 t211 t212 t213 t214 t215) = some r := by rw [if_neg (show ¬ (false = true) by decide)] at H; exact H
        clear H
        have H := H1
        clear H1
        have H' := Aside0.mk H
        clear H
        go_wp2
        go_meet
        case rel => exact ⟨_, (t205), (t206), (t207), (t208), (t209), (t210), (t211), (t212), (t213), (t214), (t215), H', ⟨by first | omega | exact Nat.le_refl _⟩, ⟨by (with_reducible repeat (first | refine blk_drewN ?_ _ | refine blk_drew ?_ | refine blk_alloc ?_ _)); refine blk_put (cs := #[.bool t205, .int .u32 t206, .int .u32 t207, .int .u32 t208, .int .u32 t209, .int .u32 t210, .int .u32 t211, .int .u32 t212, .int .u32 t213, .int .u32 t214, .int .u32 0]) ?_ 10 _ rfl; (with_reducible repeat (first | refine blk_drewN ?_ _ | refine blk_drew ?_ | refine blk_alloc ?_ _)); refine blk_put (cs := #[.bool t205, .int .u32 t206, .int .u32 t207, .int .u32 t208, .int .u32 t209, .int .u32 t210, .int .u32 t211, .int .u32 t212, .int .u32 t213, .int .u32 0, .int .u32 0]) ?_ 9 _ rfl; (with_reducible repeat (first | refine blk_drewN ?_ _ | refine blk_drew ?_ | refine blk_alloc ?_ _)); refine blk_put (cs := #[.bool t205, .int .u32 t206, .int .u32 t207, .int .u32 t208, .int .u32 t209, .int .u32 t210, .int .u32 t211, .int .u32 t212, .int .u32 0, .int .u32 0, .int .u32 0]) ?_ 8 _ rfl; (with_reducible repeat (first | refine blk_drewN ?_ _ | refine blk_drew ?_ | refine blk_alloc ?_ _)); refine blk_put (cs := #[.bool t205, .int .u32 t206, .int .u32 t207, .int .u32 t208, .int .u32 t209, .int .u32 t210, .int .u32 t211, .int .u32 0, .int .u32 0, .int .u32 0, .int .u32 0]) ?_ 7 _ rfl; (with_reducible repeat (first | refine blk_drewN ?_ _ | refine blk_drew ?_ | refine blk_alloc ?_ _)); refine blk_put (cs := #[.bool t205, .int .u32 t206, .int .u32 t207, .int .u32 t208, .int .u32 t209, .int .u32 t210, .int .u32 0, .int .u32 0, .int .u32 0, .int .u32 0, .int .u32 0]) ?_ 6 _ rfl; (with_reducible repeat (first | refine blk_drewN ?_ _ | refine blk_drew ?_ | refine blk_alloc ?_ _)); refine blk_put (cs := #[.bool t205, .int .u32 t206, .int .u32 t207, .int .u32 t208, .int .u32 t209, .int .u32 0, .int .u32 0, .int .u32 0, .int .u32 0, .int .u32 0, .int .u32 0]) ?_ 5 _ rfl; (with_reducible repeat (first | refine blk_drewN ?_ _ | refine blk_drew ?_ | refine blk_alloc ?_ _)); refine blk_put (cs := #[.bool t205, .int .u32 t206, .int .u32 t207, .int .u32 t208, .int .u32 0, .int .u32 0, .int .u32 0, .int .u32 0, .int .u32 0, .int .u32 0, .int .u32 0]) ?_ 4 _ rfl; (with_reducible repeat (first | refine blk_drewN ?_ _ | refine blk_drew ?_ | refine blk_alloc ?_ _)); refine blk_put (cs := #[.bool t205, .int .u32 t206, .int .u32 t207, .int .u32 0, .int .u32 0, .int .u32 0, .int .u32 0, .int .u32 0, .int .u32 0, .int .u32 0, .int .u32 0]) ?_ 3 _ rfl; (with_reducible repeat (first | refine blk_drewN ?_ _ | refine blk_drew ?_ | refine blk_alloc ?_ _)); refine blk_put (cs := #[.bool t205, .int .u32 t206, .int .u32 0, .int .u32 0, .int .u32 0, .int .u32 0, .int .u32 0, .int .u32 0, .int .u32 0, .int .u32 0, .int .u32 0]) ?_ 2 _ rfl; (with_reducible repeat (first | refine blk_drewN ?_ _ | refine blk_drew ?_ | refine blk_alloc ?_ _)); refine blk_put (cs := #[.bool t205, .int .u32 0, .int .u32 0, .int .u32 0, .int .u32 0, .int .u32 0, .int .u32 0, .int .u32 0, .int .u32 0, .int .u32 0, .int .u32 0]) ?_ 1 _ rfl; (with_reducible repeat (first | refine blk_drewN ?_ _ | refine blk_drew ?_ | refine blk_alloc ?_ _)); refine blk_put (cs := #[.bool false, .int .u32 0, .int .u32 0, .int .u32 0, .int .u32 0, .int .u32 0, .int .u32 0, .int .u32 0, .int .u32 0, .int .u32 0, .int .u32 0]) ?_ 0 _ rfl; (with_reducible repeat (first | refine blk_drewN ?_ _ | refine blk_drew ?_ | refine blk_alloc ?_ _)); exact BK216.out⟩, ⟨by repeat (first | (with_reducible first | exact HB.out | apply below_alloc | apply pw_below_drewN | apply below_drew1 | refine below_set ?_ GE216.out) | exact HB.out)⟩⟩
    case rest =>
      clear HC8
      try clear c1
      try clear c2
      try clear p2
      try clear c6
      try clear c11
      try clear c13
      try clear hcz12_0
      try clear hcz12_1
      try clear hcz12_10
      try clear hcz12_2
      try clear hcz12_3
      try clear hcz12_4
      try clear hcz12_5
      try clear hcz12_6
      try clear hcz12_7
      try clear hcz12_8
      try clear hcz12_9
      try clear hfz12_0
      try clear hfz12_1
      try clear hfz12_10
      try clear hfz12_2
      try clear hfz12_3
      try clear hfz12_4
      try clear hfz12_5
      try clear hfz12_6
      try clear hfz12_7
      try clear hfz12_8
      try clear hfz12_9
      obtain ⟨kq, x217000_7, x217001_7, x217002_7, x217003_7, x217004_7, x217005_7, x217006_7, x217007_7, x217008_7, x217009_7, x217010_7, HA, HJ7, BK216, HB⟩ := hcut
      cases kq with
      | zero => exact absurd HA.out (by simp [corrallaw6_CsrBells.j0])
      | succ kj7 =>
        have H := HA.out
        clear HA
        simp only [corrallaw6_CsrBells.j0] at H
        have HC16 := Aside0.mk H
        clear H
        go_upto_if 25 with (fail)
        go_cut [11] (fun v11 wc => ∃ (kq : Nat) (x11_15 : Int), v11 = .int .u32 x11_15 ∧ Aside0 (corrallaw6_CsrBells.j1 kq a0 a1 a2 a3 true x11_15 x217000_7 x217001_7 x217002_7 x217003_7 x217004_7 x217005_7 x217006_7 x217007_7 x217008_7 x217009_7 x217010_7 = some r) ∧ Aside0 (kq ≤ kj7) ∧ Aside0 (wc.heap[gb216]? = some (.cells #[.bool x217000_7, .int .u32 x217001_7, .int .u32 x217002_7, .int .u32 x217003_7, .int .u32 x217004_7, .int .u32 x217005_7, .int .u32 x217006_7, .int .u32 x217007_7, .int .u32 x217008_7, .int .u32 x217009_7, .int .u32 x217010_7] 38 (0, 0))) ∧ Aside0 (Below w.heap.size w wc))
        case first =>
          have H := HC16.out
          clear HC16
          by_cases c17 : a2 = true
          · subst c17
            have H1 : (corrallaw6_CsrBells.j1 kj7 a0 a1 true a3 true 8 x217000_7 x217001_7 x217002_7 x217003_7 x217004_7 x217005_7 x217006_7 x217007_7 x217008_7 x217009_7 x217010_7) = some r := by rw [if_pos rfl] at H; exact H
            clear H
            have H := H1
            clear H1
            have H' := Aside0.mk H
            clear H
            go_wp2
            go_meet
            case rel => exact ⟨_, (8), (by first | rfl | (simp; done) | (simp [*]; done)), H', ⟨by have := HJ7.out; first | omega | exact Nat.le_refl _⟩, ⟨by (with_reducible repeat (first | refine blk_drewN ?_ _ | refine blk_drew ?_ | refine blk_alloc ?_ _)); exact BK216.out⟩, ⟨by repeat (first | (with_reducible first | exact HB.out | apply below_alloc | apply pw_below_drewN | apply below_drew1 | refine below_set ?_ GE216.out) | exact HB.out)⟩⟩
          · replace c17 := Bool.eq_false_iff.mpr c17
            subst c17
            have H1 : (corrallaw6_CsrBells.j1 kj7 a0 a1 false a3 true 0 x217000_7 x217001_7 x217002_7 x217003_7 x217004_7 x217005_7 x217006_7 x217007_7 x217008_7 x217009_7 x217010_7) = some r := by rw [if_neg (show ¬ (false = true) by decide)] at H; exact H
            clear H
            have H := H1
            clear H1
            have H' := Aside0.mk H
            clear H
            go_wp2
            go_meet
            case rel => exact ⟨_, (0), (by first | rfl | (simp; done) | (simp [*]; done)), H', ⟨by have := HJ7.out; first | omega | exact Nat.le_refl _⟩, ⟨by (with_reducible repeat (first | refine blk_drewN ?_ _ | refine blk_drew ?_ | refine blk_alloc ?_ _)); exact BK216.out⟩, ⟨by repeat (first | (with_reducible first | exact HB.out | apply below_alloc | apply pw_below_drewN | apply below_drew1 | refine below_set ?_ GE216.out) | exact HB.out)⟩⟩
        case rest =>
          clear HC16
          try clear c1
          try clear c2
          try clear p2
          try clear c6
          try clear c11
          try clear c13
          try clear c17
          try clear hcz12_0
          try clear hcz12_1
          try clear hcz12_10
          try clear hcz12_2
          try clear hcz12_3
          try clear hcz12_4
          try clear hcz12_5
          try clear hcz12_6
          try clear hcz12_7
          try clear hcz12_8
          try clear hcz12_9
          try clear hfz12_0
          try clear hfz12_1
          try clear hfz12_10
          try clear hfz12_2
          try clear hfz12_3
          try clear hfz12_4
          try clear hfz12_5
          try clear hfz12_6
          try clear hfz12_7
          try clear hfz12_8
          try clear hfz12_9
          try clear p2
          obtain ⟨kq, x11_15, rfl, HA, HJ15, BK216, HB⟩ := hcut
          cases kq with
          | zero => exact absurd HA.out (by simp [corrallaw6_CsrBells.j1])
          | succ kj15 =>
            have H := HA.out
            clear HA
            simp only [corrallaw6_CsrBells.j1] at H
            have HC18 := Aside0.mk H
            clear H
            go_upto_if 26 with (fail)
            go_cut [] (fun wc => ∃ (kq : Nat) (x217000_17 : Bool) (x217001_17 : Int) (x217002_17 : Int) (x217003_17 : Int) (x217004_17 : Int) (x217005_17 : Int) (x217006_17 : Int) (x217007_17 : Int) (x217008_17 : Int) (x217009_17 : Int) (x217010_17 : Int), Aside0 (corrallaw6_CsrBells.j2 kq a0 a1 a2 a3 true x217000_17 x217001_17 x217002_17 x217003_17 x217004_17 x217005_17 x217006_17 x217007_17 x217008_17 x217009_17 x217010_17 = some r) ∧ Aside0 (kq ≤ kj15) ∧ Aside0 (wc.heap[gb216]? = some (.cells #[.bool x217000_17, .int .u32 x217001_17, .int .u32 x217002_17, .int .u32 x217003_17, .int .u32 x217004_17, .int .u32 x217005_17, .int .u32 x217006_17, .int .u32 x217007_17, .int .u32 x217008_17, .int .u32 x217009_17, .int .u32 x217010_17] 38 (0, 0))) ∧ Aside0 (Below w.heap.size w wc))
            case first =>
              have H := HC18.out
              clear HC18
              by_cases c19 : a3 = true
              · subst c19
                have H1 : ((csr_File_Set.f x217000_7 x217001_7 x217002_7 x217003_7 x217004_7 x217005_7 x217006_7 x217007_7 x217008_7 x217009_7 x217010_7 768 ((x11_15 * 16) % 4294967296)).bind fun bt229 => ((csr_File_Return.f bt229.2.1 bt229.2.2.1 bt229.2.2.2.1 bt229.2.2.2.2.1 bt229.2.2.2.2.2.1 bt229.2.2.2.2.2.2.1 bt229.2.2.2.2.2.2.2.1 bt229.2.2.2.2.2.2.2.2.1 bt229.2.2.2.2.2.2.2.2.2.1 bt229.2.2.2.2.2.2.2.2.2.2.1 bt229.2.2.2.2.2.2.2.2.2.2.2).bind fun bt241 => (corrallaw6_CsrBells.j2 kj15 a0 a1 a2 true true bt241.2.1 bt241.2.2.1 bt241.2.2.2.1 bt241.2.2.2.2.1 bt241.2.2.2.2.2.1 bt241.2.2.2.2.2.2.1 bt241.2.2.2.2.2.2.2.1 bt241.2.2.2.2.2.2.2.2.1 bt241.2.2.2.2.2.2.2.2.2.1 bt241.2.2.2.2.2.2.2.2.2.2.1 bt241.2.2.2.2.2.2.2.2.2.2.2))) = some r := by rw [if_pos rfl] at H; exact H
                clear H
                have H := H1
                clear H1
                replace H := Option.bind_eq_some_iff.mp H
                obtain ⟨⟨t229, t230, t231, t232, t233, t234, t235, t236, t237, t238, t239, t240⟩, A200, H⟩ := H
                replace H : ((csr_File_Return.f t230 t231 t232 t233 t234 t235 t236 t237 t238 t239 t240).bind fun bt241 => (corrallaw6_CsrBells.j2 kj15 a0 a1 a2 true true bt241.2.1 bt241.2.2.1 bt241.2.2.2.1 bt241.2.2.2.2.1 bt241.2.2.2.2.2.1 bt241.2.2.2.2.2.2.1 bt241.2.2.2.2.2.2.2.1 bt241.2.2.2.2.2.2.2.2.1 bt241.2.2.2.2.2.2.2.2.2.1 bt241.2.2.2.2.2.2.2.2.2.2.1 bt241.2.2.2.2.2.2.2.2.2.2.2)) = some r := H
                have A20 := Aside0.mk A200
                clear A200
                replace H := Option.bind_eq_some_iff.mp H
                obtain ⟨⟨t241, t242, t243, t244, t245, t246, t247, t248, t249, t250, t251, t252⟩, A210, H⟩ := H
                replace H : (corrallaw6_CsrBells.j2 kj15 a0 a1 a2 true true t242 t243 t244 t245 t246 t247 t248 t249 t250 t251 t252) = some r := H
                have A21 := Aside0.mk A210
                clear A210
                have H' := Aside0.mk H
                clear H
                go_wp2_with (first | ((with_reducible refine gate_callee (f := 22) rfl ?_); refine goesL_ (some 29) rfl rfl Try.func22 (by kernel_rfl) rfl #[.pointer (some ⟨gb216, 0, none⟩), .int .i64 768, .int .u32 ((x11_15 * 16) % 4294967296)] rfl (by (try simp only [List.map_toArray, List.map_cons, List.map_nil]); first | done | rfl | (simp only [List.length_drop, List.length_take]; rfl)) ?_; (with_reducible refine (csr_File_Set.calls gb216 x217000_7 x217001_7 x217002_7 x217003_7 x217004_7 x217005_7 x217006_7 x217007_7 x217008_7 x217009_7 x217010_7 768 ((x11_15 * 16) % 4294967296) t229 t230 t231 t232 t233 t234 t235 t236 t237 t238 t239 t240 w _ ?side1 ?side2 A20.out).mono ?_); (case side1 => exact And.intro (by (with_reducible repeat (first | refine blk_drewN ?_ _ | refine blk_drew ?_ | refine blk_alloc ?_ _)); exact BK216.out) GW216.out); (case side2 => repeat (first | (with_reducible first | exact HB.out | apply below_alloc | apply pw_below_drewN | apply below_drew1 | refine below_set ?_ GE216.out) | exact HB.out)); rintro e w22 ⟨rfl, hi, hb, hk⟩; refine ⟨_, rfl, ?_⟩; have n0_ := Aside0.mk (hb); have n1_ := Aside0.mk ((And.left hi)); clear HB; clear BK216; have HB := n0_; have BK216 := n1_; clear n0_ n1_; (try clear hb); (try clear hb2); (try clear hk); (try clear hi)) | ((with_reducible refine gate_callee (f := 26) rfl ?_); refine goesL_ (some 30) rfl rfl Try.func26 (by kernel_rfl) rfl #[.pointer (some ⟨gb216, 0, none⟩)] rfl (by (try simp only [List.map_toArray, List.map_cons, List.map_nil]); first | done | rfl | (simp only [List.length_drop, List.length_take]; rfl)) ?_; (with_reducible refine (csr_File_Return.calls gb216 t230 t231 t232 t233 t234 t235 t236 t237 t238 t239 t240 t241 t242 t243 t244 t245 t246 t247 t248 t249 t250 t251 t252 w _ ?side1 ?side2 A21.out).mono ?_); (case side1 => exact And.intro (by (with_reducible repeat (first | refine blk_drewN ?_ _ | refine blk_drew ?_ | refine blk_alloc ?_ _)); exact BK216.out) GW216.out); (case side2 => repeat (first | (with_reducible first | exact HB.out | apply below_alloc | apply pw_below_drewN | apply below_drew1 | refine below_set ?_ GE216.out) | exact HB.out)); rintro e w23 ⟨rfl, hi, hb, hk⟩; refine ⟨_, rfl, ?_⟩; have n0_ := Aside0.mk (hb); have n1_ := Aside0.mk ((And.left hi)); clear HB; clear BK216; have HB := n0_; have BK216 := n1_; clear n0_ n1_; (try clear hb); (try clear hb2); (try clear hk); (try clear hi)))
                go_meet
                case rel => exact ⟨_, (t242), (t243), (t244), (t245), (t246), (t247), (t248), (t249), (t250), (t251), (t252), H', ⟨by have := HJ7.out; have := HJ15.out; first | omega | exact Nat.le_refl _⟩, ⟨by (with_reducible repeat (first | refine blk_drewN ?_ _ | refine blk_drew ?_ | refine blk_alloc ?_ _)); exact BK216.out⟩, ⟨by repeat (first | (with_reducible first | exact HB.out | apply below_alloc | apply pw_below_drewN | apply below_drew1 | refine below_set ?_ GE216.out) | exact HB.out)⟩⟩
              · replace c19 := Bool.eq_false_iff.mpr c19
                subst c19
                have H1 : ((csr_File_Set.f x217000_7 x217001_7 x217002_7 x217003_7 x217004_7 x217005_7 x217006_7 x217007_7 x217008_7 x217009_7 x217010_7 768 x11_15).bind fun bt253 => (corrallaw6_CsrBells.j2 kj15 a0 a1 a2 false true bt253.2.1 bt253.2.2.1 bt253.2.2.2.1 bt253.2.2.2.2.1 bt253.2.2.2.2.2.1 bt253.2.2.2.2.2.2.1 bt253.2.2.2.2.2.2.2.1 bt253.2.2.2.2.2.2.2.2.1 bt253.2.2.2.2.2.2.2.2.2.1 bt253.2.2.2.2.2.2.2.2.2.2.1 bt253.2.2.2.2.2.2.2.2.2.2.2)) = some r := by rw [if_neg (show ¬ (false = true) by decide)] at H; exact H
                clear H
                have H := H1
                clear H1
                replace H := Option.bind_eq_some_iff.mp H
                obtain ⟨⟨t253, t254, t255, t256, t257, t258, t259, t260, t261, t262, t263, t264⟩, A240, H⟩ := H
                replace H : (corrallaw6_CsrBells.j2 kj15 a0 a1 a2 false true t254 t255 t256 t257 t258 t259 t260 t261 t262 t263 t264) = some r := H
                have A24 := Aside0.mk A240
                clear A240
                have H' := Aside0.mk H
                clear H
                go_wp2_with (first | ((with_reducible refine gate_callee (f := 22) rfl ?_); refine goesL_ (some 32) rfl rfl Try.func22 (by kernel_rfl) rfl #[.pointer (some ⟨gb216, 0, none⟩), .int .i64 768, .int .u32 x11_15] rfl (by (try simp only [List.map_toArray, List.map_cons, List.map_nil]); first | done | rfl | (simp only [List.length_drop, List.length_take]; rfl)) ?_; (with_reducible refine (csr_File_Set.calls gb216 x217000_7 x217001_7 x217002_7 x217003_7 x217004_7 x217005_7 x217006_7 x217007_7 x217008_7 x217009_7 x217010_7 768 x11_15 t253 t254 t255 t256 t257 t258 t259 t260 t261 t262 t263 t264 w _ ?side1 ?side2 A24.out).mono ?_); (case side1 => exact And.intro (by (with_reducible repeat (first | refine blk_drewN ?_ _ | refine blk_drew ?_ | refine blk_alloc ?_ _)); exact BK216.out) GW216.out); (case side2 => repeat (first | (with_reducible first | exact HB.out | apply below_alloc | apply pw_below_drewN | apply below_drew1 | refine below_set ?_ GE216.out) | exact HB.out)); rintro e w25 ⟨rfl, hi, hb, hk⟩; refine ⟨_, rfl, ?_⟩; have n0_ := Aside0.mk (hb); have n1_ := Aside0.mk ((And.left hi)); clear HB; clear BK216; have HB := n0_; have BK216 := n1_; clear n0_ n1_; (try clear hb); (try clear hb2); (try clear hk); (try clear hi)))
                go_meet
                case rel => exact ⟨_, (t254), (t255), (t256), (t257), (t258), (t259), (t260), (t261), (t262), (t263), (t264), H', ⟨by have := HJ7.out; have := HJ15.out; first | omega | exact Nat.le_refl _⟩, ⟨by (with_reducible repeat (first | refine blk_drewN ?_ _ | refine blk_drew ?_ | refine blk_alloc ?_ _)); exact BK216.out⟩, ⟨by repeat (first | (with_reducible first | exact HB.out | apply below_alloc | apply pw_below_drewN | apply below_drew1 | refine below_set ?_ GE216.out) | exact HB.out)⟩⟩
            case rest =>
              clear HC18
              try clear c1
              try clear c2
              try clear p2
              try clear c6
              try clear c11
              try clear c13
              try clear c17
              try clear c19
              try clear c20
              try clear c21
              try clear c22
              try clear hcz12_0
              try clear hcz12_1
              try clear hcz12_10
              try clear hcz12_2
              try clear hcz12_3
              try clear hcz12_4
              try clear hcz12_5
              try clear hcz12_6
              try clear hcz12_7
              try clear hcz12_8
              try clear hcz12_9
              try clear hfz12_0
              try clear hfz12_1
              try clear hfz12_10
              try clear hfz12_2
              try clear hfz12_3
              try clear hfz12_4
              try clear hfz12_5
              try clear hfz12_6
              try clear hfz12_7
              try clear hfz12_8
              try clear hfz12_9
              try clear p2
              obtain ⟨kq, x217000_17, x217001_17, x217002_17, x217003_17, x217004_17, x217005_17, x217006_17, x217007_17, x217008_17, x217009_17, x217010_17, HA, HJ17, BK216, HB⟩ := hcut
              cases kq with
              | zero => exact absurd HA.out (by simp [corrallaw6_CsrBells.j2])
              | succ kj17 =>
                have H := HA.out
                clear HA
                simp only [corrallaw6_CsrBells.j2] at H
                replace H := Option.bind_eq_some_iff.mp H
                obtain ⟨⟨t265, t266, t267, t268, t269, t270, t271, t272, t273, t274, t275⟩, A260, H⟩ := H
                replace H : ((csr_File_Pending.f t265 t266 t267 t268 t269 t270 t271 t272 t273 t274 t275).bind fun bt276 => (if a0 = true then (if a1 = true then (if a3 = true then (corrallaw6_CsrBells.j3 kj17 true bt276.1 bt276.2.1 true bt276.2.2.1 bt276.2.2.2.1 bt276.2.2.2.2.1 bt276.2.2.2.2.2.1 bt276.2.2.2.2.2.2.1 bt276.2.2.2.2.2.2.2.1 bt276.2.2.2.2.2.2.2.2.1 bt276.2.2.2.2.2.2.2.2.2.1 bt276.2.2.2.2.2.2.2.2.2.2.1 bt276.2.2.2.2.2.2.2.2.2.2.2.1 bt276.2.2.2.2.2.2.2.2.2.2.2.2) else (corrallaw6_CsrBells.j3 kj17 true bt276.1 bt276.2.1 a2 bt276.2.2.1 bt276.2.2.2.1 bt276.2.2.2.2.1 bt276.2.2.2.2.2.1 bt276.2.2.2.2.2.2.1 bt276.2.2.2.2.2.2.2.1 bt276.2.2.2.2.2.2.2.2.1 bt276.2.2.2.2.2.2.2.2.2.1 bt276.2.2.2.2.2.2.2.2.2.2.1 bt276.2.2.2.2.2.2.2.2.2.2.2.1 bt276.2.2.2.2.2.2.2.2.2.2.2.2)) else (corrallaw6_CsrBells.j3 kj17 true bt276.1 bt276.2.1 false bt276.2.2.1 bt276.2.2.2.1 bt276.2.2.2.2.1 bt276.2.2.2.2.2.1 bt276.2.2.2.2.2.2.1 bt276.2.2.2.2.2.2.2.1 bt276.2.2.2.2.2.2.2.2.1 bt276.2.2.2.2.2.2.2.2.2.1 bt276.2.2.2.2.2.2.2.2.2.2.1 bt276.2.2.2.2.2.2.2.2.2.2.2.1 bt276.2.2.2.2.2.2.2.2.2.2.2.2)) else (corrallaw6_CsrBells.j3 kj17 true bt276.1 bt276.2.1 false bt276.2.2.1 bt276.2.2.2.1 bt276.2.2.2.2.1 bt276.2.2.2.2.2.1 bt276.2.2.2.2.2.2.1 bt276.2.2.2.2.2.2.2.1 bt276.2.2.2.2.2.2.2.2.1 bt276.2.2.2.2.2.2.2.2.2.1 bt276.2.2.2.2.2.2.2.2.2.2.1 bt276.2.2.2.2.2.2.2.2.2.2.2.1 bt276.2.2.2.2.2.2.2.2.2.2.2.2))) = some r := H
                have A26 := Aside0.mk A260
                clear A260
                replace H := Option.bind_eq_some_iff.mp H
                obtain ⟨⟨t276, t277, t278, t279, t280, t281, t282, t283, t284, t285, t286, t287, t288⟩, A270, H⟩ := H
                replace H : (if a0 = true then (if a1 = true then (if a3 = true then (corrallaw6_CsrBells.j3 kj17 true t276 t277 true t278 t279 t280 t281 t282 t283 t284 t285 t286 t287 t288) else (corrallaw6_CsrBells.j3 kj17 true t276 t277 a2 t278 t279 t280 t281 t282 t283 t284 t285 t286 t287 t288)) else (corrallaw6_CsrBells.j3 kj17 true t276 t277 false t278 t279 t280 t281 t282 t283 t284 t285 t286 t287 t288)) else (corrallaw6_CsrBells.j3 kj17 true t276 t277 false t278 t279 t280 t281 t282 t283 t284 t285 t286 t287 t288)) = some r := H
                have A27 := Aside0.mk A270
                clear A270
                have HC28 := Aside0.mk H
                clear H
                go_upto_region 16 with (first | ((with_reducible refine gate_callee (f := 29) rfl ?_); refine goesL_ (some 34) rfl rfl Try.func29 (by kernel_rfl) rfl #[.pointer (some ⟨gb216, 0, none⟩), .bool a0] rfl (by (try simp only [List.map_toArray, List.map_cons, List.map_nil]); first | done | rfl | (simp only [List.length_drop, List.length_take]; rfl)) ?_; (with_reducible refine (csr_File_Bell.calls gb216 x217000_17 x217001_17 x217002_17 x217003_17 x217004_17 x217005_17 x217006_17 x217007_17 x217008_17 x217009_17 x217010_17 a0 t265 t266 t267 t268 t269 t270 t271 t272 t273 t274 t275 w _ ?side1 ?side2 A26.out).mono ?_); (case side1 => exact And.intro (by (with_reducible repeat (first | refine blk_drewN ?_ _ | refine blk_drew ?_ | refine blk_alloc ?_ _)); exact BK216.out) GW216.out); (case side2 => repeat (first | (with_reducible first | exact HB.out | apply below_alloc | apply pw_below_drewN | apply below_drew1 | refine below_set ?_ GE216.out) | exact HB.out)); rintro e w29 ⟨rfl, hi, hb, hk⟩; refine ⟨_, rfl, ?_⟩; have n0_ := Aside0.mk (hb); have n1_ := Aside0.mk ((And.left hi)); clear HB; clear BK216; have HB := n0_; have BK216 := n1_; clear n0_ n1_; (try clear hb); (try clear hb2); (try clear hk); (try clear hi)) | ((with_reducible refine gate_callee (f := 30) rfl ?_); refine goesL_ (some 36) rfl rfl Try.func30 (by kernel_rfl) rfl #[.pointer (some ⟨gb216, 0, none⟩)] rfl (by (try simp only [List.map_toArray, List.map_cons, List.map_nil]); first | done | rfl | (simp only [List.length_drop, List.length_take]; rfl)) ?_; (with_reducible refine (csr_File_Pending.calls gb216 t265 t266 t267 t268 t269 t270 t271 t272 t273 t274 t275 t276 t277 t278 t279 t280 t281 t282 t283 t284 t285 t286 t287 t288 w _ ?side1 ?side2 A27.out).mono ?_); (case side1 => exact And.intro (by (with_reducible repeat (first | refine blk_drewN ?_ _ | refine blk_drew ?_ | refine blk_alloc ?_ _)); exact BK216.out) GW216.out); (case side2 => repeat (first | (with_reducible first | exact HB.out | apply below_alloc | apply pw_below_drewN | apply below_drew1 | refine below_set ?_ GE216.out) | exact HB.out)); rintro e w30 ⟨rfl, hi, hb, hk⟩; refine ⟨_, rfl, ?_⟩; have n0_ := Aside0.mk (hb); have n1_ := Aside0.mk ((And.left hi)); clear HB; clear BK216; have HB := n0_; have BK216 := n1_; clear n0_ n1_; (try clear hb); (try clear hb2); (try clear hk); (try clear hi)))
                (try simp only [Act.put, List.setIfInBounds_toArray, List.set_cons_zero, List.set_cons_succ])
                go_cut [14] (fun v14 wc => ∃ (kq : Nat) (x14_27 : Bool), v14 = .bool x14_27 ∧ Aside0 (corrallaw6_CsrBells.j3 kq true t276 t277 x14_27 t278 t279 t280 t281 t282 t283 t284 t285 t286 t287 t288 = some r) ∧ Aside0 (kq ≤ kj17) ∧ Aside0 (wc.heap[gb216]? = some (.cells #[.bool t278, .int .u32 t279, .int .u32 t280, .int .u32 t281, .int .u32 t282, .int .u32 t283, .int .u32 t284, .int .u32 t285, .int .u32 t286, .int .u32 t287, .int .u32 t288] 38 (0, 0))) ∧ Aside0 (Below w.heap.size w wc))
                case first =>
                  have H := HC28.out
                  clear HC28
                  by_cases c31 : a0 = true
                  · subst c31
                    have H1 : (if a1 = true then (if a3 = true then (corrallaw6_CsrBells.j3 kj17 true t276 t277 true t278 t279 t280 t281 t282 t283 t284 t285 t286 t287 t288) else (corrallaw6_CsrBells.j3 kj17 true t276 t277 a2 t278 t279 t280 t281 t282 t283 t284 t285 t286 t287 t288)) else (corrallaw6_CsrBells.j3 kj17 true t276 t277 false t278 t279 t280 t281 t282 t283 t284 t285 t286 t287 t288)) = some r := by rw [if_pos rfl] at H; exact H
                    clear H
                    have H := H1
                    clear H1
                    by_cases c32 : a1 = true
                    · subst c32
                      have H1 : (if a3 = true then (corrallaw6_CsrBells.j3 kj17 true t276 t277 true t278 t279 t280 t281 t282 t283 t284 t285 t286 t287 t288) else (corrallaw6_CsrBells.j3 kj17 true t276 t277 a2 t278 t279 t280 t281 t282 t283 t284 t285 t286 t287 t288)) = some r := by rw [if_pos rfl] at H; exact H
                      clear H
                      have H := H1
                      clear H1
                      by_cases c33 : a3 = true
                      · subst c33
                        have H1 : (corrallaw6_CsrBells.j3 kj17 true t276 t277 true t278 t279 t280 t281 t282 t283 t284 t285 t286 t287 t288) = some r := by rw [if_pos rfl] at H; exact H
                        clear H
                        have H := H1
                        clear H1
                        have H' := Aside0.mk H
                        clear H
                        go_wp2
                        go_meet
                        case rel => exact ⟨_, (true), (by first | rfl | (simp; done) | (simp [*]; done)), H', ⟨by have := HJ7.out; have := HJ15.out; have := HJ17.out; first | omega | exact Nat.le_refl _⟩, ⟨by (with_reducible repeat (first | refine blk_drewN ?_ _ | refine blk_drew ?_ | refine blk_alloc ?_ _)); exact BK216.out⟩, ⟨by repeat (first | (with_reducible first | exact HB.out | apply below_alloc | apply pw_below_drewN | apply below_drew1 | refine below_set ?_ GE216.out) | exact HB.out)⟩⟩
                      · replace c33 := Bool.eq_false_iff.mpr c33
                        subst c33
                        have H1 : (corrallaw6_CsrBells.j3 kj17 true t276 t277 a2 t278 t279 t280 t281 t282 t283 t284 t285 t286 t287 t288) = some r := by rw [if_neg (show ¬ (false = true) by decide)] at H; exact H
                        clear H
                        have H := H1
                        clear H1
                        have H' := Aside0.mk H
                        clear H
                        go_wp2
                        go_meet
                        case rel => exact ⟨_, (a2), (by first | rfl | (simp; done) | (simp [*]; done)), H', ⟨by have := HJ7.out; have := HJ15.out; have := HJ17.out; first | omega | exact Nat.le_refl _⟩, ⟨by (with_reducible repeat (first | refine blk_drewN ?_ _ | refine blk_drew ?_ | refine blk_alloc ?_ _)); exact BK216.out⟩, ⟨by repeat (first | (with_reducible first | exact HB.out | apply below_alloc | apply pw_below_drewN | apply below_drew1 | refine below_set ?_ GE216.out) | exact HB.out)⟩⟩
                    · replace c32 := Bool.eq_false_iff.mpr c32
                      subst c32
                      have H1 : (corrallaw6_CsrBells.j3 kj17 true t276 t277 false t278 t279 t280 t281 t282 t283 t284 t285 t286 t287 t288) = some r := by rw [if_neg (show ¬ (false = true) by decide)] at H; exact H
                      clear H
                      have H := H1
                      clear H1
                      have H' := Aside0.mk H
                      clear H
                      go_wp2
                      go_meet
                      case rel => exact ⟨_, (false), (by first | rfl | (simp; done) | (simp [*]; done)), H', ⟨by have := HJ7.out; have := HJ15.out; have := HJ17.out; first | omega | exact Nat.le_refl _⟩, ⟨by (with_reducible repeat (first | refine blk_drewN ?_ _ | refine blk_drew ?_ | refine blk_alloc ?_ _)); exact BK216.out⟩, ⟨by repeat (first | (with_reducible first | exact HB.out | apply below_alloc | apply pw_below_drewN | apply below_drew1 | refine below_set ?_ GE216.out) | exact HB.out)⟩⟩
                  · replace c31 := Bool.eq_false_iff.mpr c31
                    subst c31
                    have H1 : (corrallaw6_CsrBells.j3 kj17 true t276 t277 false t278 t279 t280 t281 t282 t283 t284 t285 t286 t287 t288) = some r := by rw [if_neg (show ¬ (false = true) by decide)] at H; exact H
                    clear H
                    have H := H1
                    clear H1
                    have H' := Aside0.mk H
                    clear H
                    go_wp2
                    go_meet
                    case rel => exact ⟨_, (false), (by first | rfl | (simp; done) | (simp [*]; done)), H', ⟨by have := HJ7.out; have := HJ15.out; have := HJ17.out; first | omega | exact Nat.le_refl _⟩, ⟨by (with_reducible repeat (first | refine blk_drewN ?_ _ | refine blk_drew ?_ | refine blk_alloc ?_ _)); exact BK216.out⟩, ⟨by repeat (first | (with_reducible first | exact HB.out | apply below_alloc | apply pw_below_drewN | apply below_drew1 | refine below_set ?_ GE216.out) | exact HB.out)⟩⟩
                case rest =>
                  clear HC28
                  try clear c1
                  try clear c2
                  try clear p2
                  try clear c3
                  try clear c6
                  try clear c11
                  try clear c13
                  try clear c17
                  try clear c19
                  try clear c20
                  try clear c21
                  try clear c22
                  try clear c26
                  try clear c29
                  try clear c30
                  try clear c31
                  try clear c32
                  try clear c33
                  try clear hcz12_0
                  try clear hcz12_1
                  try clear hcz12_10
                  try clear hcz12_2
                  try clear hcz12_3
                  try clear hcz12_4
                  try clear hcz12_5
                  try clear hcz12_6
                  try clear hcz12_7
                  try clear hcz12_8
                  try clear hcz12_9
                  try clear hfz12_0
                  try clear hfz12_1
                  try clear hfz12_10
                  try clear hfz12_2
                  try clear hfz12_3
                  try clear hfz12_4
                  try clear hfz12_5
                  try clear hfz12_6
                  try clear hfz12_7
                  try clear hfz12_8
                  try clear hfz12_9
                  try clear p2
                  obtain ⟨kq, x14_27, rfl, HA, HJ27, BK216, HB⟩ := hcut
                  cases kq with
                  | zero => exact absurd HA.out (by simp [corrallaw6_CsrBells.j3])
                  | succ kj27 =>
                    have H := HA.out
                    clear HA
                    simp only [corrallaw6_CsrBells.j3] at H
                    have HC34 := Aside0.mk H
                    clear H
                    go_upto_region 17 with (fail)
                    go_cut [66] (fun v66 wc => ∃ (kq : Nat) (x66_33 : Bool), v66 = .bool x66_33 ∧ Aside0 (corrallaw6_CsrBells.j4 kq true t276 x66_33 t278 t279 t280 t281 t282 t283 t284 t285 t286 t287 t288 = some r) ∧ Aside0 (kq ≤ kj27) ∧ Aside0 (wc.heap[gb216]? = some (.cells #[.bool t278, .int .u32 t279, .int .u32 t280, .int .u32 t281, .int .u32 t282, .int .u32 t283, .int .u32 t284, .int .u32 t285, .int .u32 t286, .int .u32 t287, .int .u32 t288] 38 (0, 0))) ∧ Aside0 (Below w.heap.size w wc))
                    case first =>
                      have H := HC34.out
                      clear HC34
                      by_cases c35 : (t277 != x14_27) = true
                      · rw [if_pos c35] at H
                        have c35b0 : (t277 != x14_27) = true := c35
                        (try (have c35b1 : decide (t277 = x14_27) = false := by simpa using c35))
                        (try (have c35b2 : (t277 == x14_27) = false := by simpa using c35))
                        (try (have c35b3 : ¬ (t277 = x14_27) := by simpa using c35))
                        clear c35
                        (first | rw [c35b0] | (simp only [i64_w, i32_w]; rw [c35b0]) | skip)
                        have H' := Aside0.mk H
                        clear H
                        go_wp2
                        go_meet
                        case rel => exact ⟨_, (true), (by first | rfl | (simp; done) | (simp [*]; done)), H', ⟨by have := HJ7.out; have := HJ15.out; have := HJ17.out; have := HJ27.out; first | omega | exact Nat.le_refl _⟩, ⟨by (with_reducible repeat (first | refine blk_drewN ?_ _ | refine blk_drew ?_ | refine blk_alloc ?_ _)); exact BK216.out⟩, ⟨by repeat (first | (with_reducible first | exact HB.out | apply below_alloc | apply pw_below_drewN | apply below_drew1 | refine below_set ?_ GE216.out) | exact HB.out)⟩⟩
                      · rw [if_neg c35] at H
                        have c35b0 : (t277 != x14_27) = false := by simpa using c35
                        (try (have c35b1 : decide (t277 = x14_27) = true := by simpa using c35))
                        (try (have c35b2 : (t277 == x14_27) = true := by simpa using c35))
                        clear c35
                        (first | rw [c35b0] | (simp only [i64_w, i32_w]; rw [c35b0]) | skip)
                        by_cases c36 : t277 = true
                        · subst c36
                          have H1 : (if t276 = 2147483651 then (corrallaw6_CsrBells.j4 kj27 true t276 false t278 t279 t280 t281 t282 t283 t284 t285 t286 t287 t288) else (corrallaw6_CsrBells.j4 kj27 true t276 true t278 t279 t280 t281 t282 t283 t284 t285 t286 t287 t288)) = some r := by rw [if_pos rfl] at H; exact H
                          clear H
                          have H := H1
                          clear H1
                          by_cases c37 : t276 = 2147483651
                          · rw [if_pos c37] at H
                            have c37b0 : (t276 == 2147483651) = true := beq_iff_eq.mpr c37
                            have c37b1 : (t276 != 2147483651) = false := bne_eq_false_iff_eq.mpr c37
                            clear c37
                            have H' := Aside0.mk H
                            clear H
                            go_wp2
                            go_meet
                            case rel => exact ⟨_, (false), (by first | rfl | (simp; done) | (simp [*]; done)), H', ⟨by have := HJ7.out; have := HJ15.out; have := HJ17.out; have := HJ27.out; first | omega | exact Nat.le_refl _⟩, ⟨by (with_reducible repeat (first | refine blk_drewN ?_ _ | refine blk_drew ?_ | refine blk_alloc ?_ _)); exact BK216.out⟩, ⟨by repeat (first | (with_reducible first | exact HB.out | apply below_alloc | apply pw_below_drewN | apply below_drew1 | refine below_set ?_ GE216.out) | exact HB.out)⟩⟩
                          · rw [if_neg c37] at H
                            have c37b0 : (t276 == 2147483651) = false := beq_eq_false_iff_ne.mpr c37
                            have c37b1 : (t276 != 2147483651) = true := bne_iff_ne.mpr c37
                            have H' := Aside0.mk H
                            clear H
                            go_wp2
                            go_meet
                            case rel => exact ⟨_, (true), (by first | rfl | (simp; done) | (simp [*]; done)), H', ⟨by have := HJ7.out; have := HJ15.out; have := HJ17.out; have := HJ27.out; first | omega | exact Nat.le_refl _⟩, ⟨by (with_reducible repeat (first | refine blk_drewN ?_ _ | refine blk_drew ?_ | refine blk_alloc ?_ _)); exact BK216.out⟩, ⟨by repeat (first | (with_reducible first | exact HB.out | apply below_alloc | apply pw_below_drewN | apply below_drew1 | refine below_set ?_ GE216.out) | exact HB.out)⟩⟩
                        · replace c36 := Bool.eq_false_iff.mpr c36
                          subst c36
                          have H1 : (corrallaw6_CsrBells.j4 kj27 true t276 (t276 != 0) t278 t279 t280 t281 t282 t283 t284 t285 t286 t287 t288) = some r := by rw [if_neg (show ¬ (false = true) by decide)] at H; exact H
                          clear H
                          have H := H1
                          clear H1
                          have H' := Aside0.mk H
                          clear H
                          go_wp2
                          go_meet
                          case rel => exact ⟨_, ((t276 != 0)), (by first | rfl | (simp; done) | (simp [*]; done)), H', ⟨by have := HJ7.out; have := HJ15.out; have := HJ17.out; have := HJ27.out; first | omega | exact Nat.le_refl _⟩, ⟨by (with_reducible repeat (first | refine blk_drewN ?_ _ | refine blk_drew ?_ | refine blk_alloc ?_ _)); exact BK216.out⟩, ⟨by repeat (first | (with_reducible first | exact HB.out | apply below_alloc | apply pw_below_drewN | apply below_drew1 | refine below_set ?_ GE216.out) | exact HB.out)⟩⟩
                    case rest =>
                      clear HC34
                      try clear c1
                      try clear c2
                      try clear p2
                      try clear c3
                      try clear c6
                      try clear c11
                      try clear c13
                      try clear c17
                      try clear c19
                      try clear c20
                      try clear c21
                      try clear c22
                      try clear c26
                      try clear c29
                      try clear c30
                      try clear c31
                      try clear c32
                      try clear c33
                      try clear c35
                      try clear c35b0
                      try clear c35b1
                      try clear c35b2
                      try clear c36
                      try clear c37
                      try clear c37b0
                      try clear c37b1
                      try clear hcz12_0
                      try clear hcz12_1
                      try clear hcz12_10
                      try clear hcz12_2
                      try clear hcz12_3
                      try clear hcz12_4
                      try clear hcz12_5
                      try clear hcz12_6
                      try clear hcz12_7
                      try clear hcz12_8
                      try clear hcz12_9
                      try clear hfz12_0
                      try clear hfz12_1
                      try clear hfz12_10
                      try clear hfz12_2
                      try clear hfz12_3
                      try clear hfz12_4
                      try clear hfz12_5
                      try clear hfz12_6
                      try clear hfz12_7
                      try clear hfz12_8
                      try clear hfz12_9
                      try clear p2
                      obtain ⟨kq, x66_33, rfl, HA, HJ33, BK216, HB⟩ := hcut
                      cases kq with
                      | zero => exact absurd HA.out (by simp [corrallaw6_CsrBells.j4])
                      | succ kj33 =>
                        have H := HA.out
                        clear HA
                        simp only [corrallaw6_CsrBells.j4] at H
                        by_cases c38 : x66_33 = true
                        · subst c38
                          have H1 : (some false) = some r := by rw [if_pos rfl] at H; exact H
                          clear H
                          have H := H1
                          clear H1
                          exact absurd (Option.some.inj H) (by rw [HRT.out]; decide)
                        · replace c38 := Bool.eq_false_iff.mpr c38
                          subst c38
                          have H1 : ((csr_File_Trap.f t278 t279 t280 t281 t282 t283 t284 t285 t286 t287 t288 t276 0 64).bind fun bt289 => ((csr_File_Pending.f bt289.2.1 bt289.2.2.1 bt289.2.2.2.1 bt289.2.2.2.2.1 bt289.2.2.2.2.2.1 bt289.2.2.2.2.2.2.1 bt289.2.2.2.2.2.2.2.1 bt289.2.2.2.2.2.2.2.2.1 bt289.2.2.2.2.2.2.2.2.2.1 bt289.2.2.2.2.2.2.2.2.2.2.1 bt289.2.2.2.2.2.2.2.2.2.2.2).bind fun bt301 => ((csr_File_Bell.f bt301.2.2.1 bt301.2.2.2.1 bt301.2.2.2.2.1 bt301.2.2.2.2.2.1 bt301.2.2.2.2.2.2.1 bt301.2.2.2.2.2.2.2.1 bt301.2.2.2.2.2.2.2.2.1 bt301.2.2.2.2.2.2.2.2.2.1 bt301.2.2.2.2.2.2.2.2.2.2.1 bt301.2.2.2.2.2.2.2.2.2.2.2.1 bt301.2.2.2.2.2.2.2.2.2.2.2.2 false).bind fun bt314 => ((csr_File_Return.f bt314.1 bt314.2.1 bt314.2.2.1 bt314.2.2.2.1 bt314.2.2.2.2.1 bt314.2.2.2.2.2.1 bt314.2.2.2.2.2.2.1 bt314.2.2.2.2.2.2.2.1 bt314.2.2.2.2.2.2.2.2.1 bt314.2.2.2.2.2.2.2.2.2.1 bt314.2.2.2.2.2.2.2.2.2.2).bind fun bt325 => ((csr_File_Pending.f bt325.2.1 bt325.2.2.1 bt325.2.2.2.1 bt325.2.2.2.2.1 bt325.2.2.2.2.2.1 bt325.2.2.2.2.2.2.1 bt325.2.2.2.2.2.2.2.1 bt325.2.2.2.2.2.2.2.2.1 bt325.2.2.2.2.2.2.2.2.2.1 bt325.2.2.2.2.2.2.2.2.2.2.1 bt325.2.2.2.2.2.2.2.2.2.2.2).bind fun bt337 => (if true = true then (if bt301.2.1 = true then (some false) else (some (!bt337.2.1))) else (some false))))))) = some r := by rw [if_neg (show ¬ (false = true) by decide)] at H; exact H
                          clear H
                          have H := H1
                          clear H1
                          replace H := Option.bind_eq_some_iff.mp H
                          obtain ⟨⟨t289, t290, t291, t292, t293, t294, t295, t296, t297, t298, t299, t300⟩, A390, H⟩ := H
                          replace H : ((csr_File_Pending.f t290 t291 t292 t293 t294 t295 t296 t297 t298 t299 t300).bind fun bt301 => ((csr_File_Bell.f bt301.2.2.1 bt301.2.2.2.1 bt301.2.2.2.2.1 bt301.2.2.2.2.2.1 bt301.2.2.2.2.2.2.1 bt301.2.2.2.2.2.2.2.1 bt301.2.2.2.2.2.2.2.2.1 bt301.2.2.2.2.2.2.2.2.2.1 bt301.2.2.2.2.2.2.2.2.2.2.1 bt301.2.2.2.2.2.2.2.2.2.2.2.1 bt301.2.2.2.2.2.2.2.2.2.2.2.2 false).bind fun bt314 => ((csr_File_Return.f bt314.1 bt314.2.1 bt314.2.2.1 bt314.2.2.2.1 bt314.2.2.2.2.1 bt314.2.2.2.2.2.1 bt314.2.2.2.2.2.2.1 bt314.2.2.2.2.2.2.2.1 bt314.2.2.2.2.2.2.2.2.1 bt314.2.2.2.2.2.2.2.2.2.1 bt314.2.2.2.2.2.2.2.2.2.2).bind fun bt325 => ((csr_File_Pending.f bt325.2.1 bt325.2.2.1 bt325.2.2.2.1 bt325.2.2.2.2.1 bt325.2.2.2.2.2.1 bt325.2.2.2.2.2.2.1 bt325.2.2.2.2.2.2.2.1 bt325.2.2.2.2.2.2.2.2.1 bt325.2.2.2.2.2.2.2.2.2.1 bt325.2.2.2.2.2.2.2.2.2.2.1 bt325.2.2.2.2.2.2.2.2.2.2.2).bind fun bt337 => (if true = true then (if bt301.2.1 = true then (some false) else (some (!bt337.2.1))) else (some false)))))) = some r := H
                          have A39 := Aside0.mk A390
                          clear A390
                          replace H := Option.bind_eq_some_iff.mp H
                          obtain ⟨⟨t301, t302, t303, t304, t305, t306, t307, t308, t309, t310, t311, t312, t313⟩, A400, H⟩ := H
                          replace H : ((csr_File_Bell.f t303 t304 t305 t306 t307 t308 t309 t310 t311 t312 t313 false).bind fun bt314 => ((csr_File_Return.f bt314.1 bt314.2.1 bt314.2.2.1 bt314.2.2.2.1 bt314.2.2.2.2.1 bt314.2.2.2.2.2.1 bt314.2.2.2.2.2.2.1 bt314.2.2.2.2.2.2.2.1 bt314.2.2.2.2.2.2.2.2.1 bt314.2.2.2.2.2.2.2.2.2.1 bt314.2.2.2.2.2.2.2.2.2.2).bind fun bt325 => ((csr_File_Pending.f bt325.2.1 bt325.2.2.1 bt325.2.2.2.1 bt325.2.2.2.2.1 bt325.2.2.2.2.2.1 bt325.2.2.2.2.2.2.1 bt325.2.2.2.2.2.2.2.1 bt325.2.2.2.2.2.2.2.2.1 bt325.2.2.2.2.2.2.2.2.2.1 bt325.2.2.2.2.2.2.2.2.2.2.1 bt325.2.2.2.2.2.2.2.2.2.2.2).bind fun bt337 => (if true = true then (if t302 = true then (some false) else (some (!bt337.2.1))) else (some false))))) = some r := H
                          have A40 := Aside0.mk A400
                          clear A400
                          replace H := Option.bind_eq_some_iff.mp H
                          obtain ⟨⟨t314, t315, t316, t317, t318, t319, t320, t321, t322, t323, t324⟩, A410, H⟩ := H
                          replace H : ((csr_File_Return.f t314 t315 t316 t317 t318 t319 t320 t321 t322 t323 t324).bind fun bt325 => ((csr_File_Pending.f bt325.2.1 bt325.2.2.1 bt325.2.2.2.1 bt325.2.2.2.2.1 bt325.2.2.2.2.2.1 bt325.2.2.2.2.2.2.1 bt325.2.2.2.2.2.2.2.1 bt325.2.2.2.2.2.2.2.2.1 bt325.2.2.2.2.2.2.2.2.2.1 bt325.2.2.2.2.2.2.2.2.2.2.1 bt325.2.2.2.2.2.2.2.2.2.2.2).bind fun bt337 => (if true = true then (if t302 = true then (some false) else (some (!bt337.2.1))) else (some false)))) = some r := H
                          have A41 := Aside0.mk A410
                          clear A410
                          replace H := Option.bind_eq_some_iff.mp H
                          obtain ⟨⟨t325, t326, t327, t328, t329, t330, t331, t332, t333, t334, t335, t336⟩, A420, H⟩ := H
                          replace H : ((csr_File_Pending.f t326 t327 t328 t329 t330 t331 t332 t333 t334 t335 t336).bind fun bt337 => (if true = true then (if t302 = true then (some false) else (some (!bt337.2.1))) else (some false))) = some r := H
                          have A42 := Aside0.mk A420
                          clear A420
                          replace H := Option.bind_eq_some_iff.mp H
                          obtain ⟨⟨t337, t338, t339, t340, t341, t342, t343, t344, t345, t346, t347, t348, t349⟩, A430, H⟩ := H
                          replace H : (if true = true then (if t302 = true then (some false) else (some (!t338))) else (some false)) = some r := H
                          have A43 := Aside0.mk A430
                          clear A430
                          replace H : (if t302 = true then (some false) else (some (!t338))) = some r := by first | (rw [if_pos rfl] at H; exact H) | (rw [if_pos trivial] at H; exact H)
                          by_cases c44 : t302 = true
                          · subst c44
                            have H1 : (some false) = some r := by rw [if_pos rfl] at H; exact H
                            clear H
                            have H := H1
                            clear H1
                            exact absurd (Option.some.inj H) (by rw [HRT.out]; decide)
                          · replace c44 := Bool.eq_false_iff.mpr c44
                            subst c44
                            have H1 : (some (!t338)) = some r := by rw [if_neg (show ¬ (false = true) by decide)] at H; exact H
                            clear H
                            have H := H1
                            clear H1
                            clear HRT
                            obtain rfl := Option.some.inj H
                            go_wp2_with (first | ((with_reducible refine gate_callee (f := 28) rfl ?_); refine goesL_ (some 68) rfl rfl Try.func28 (by kernel_rfl) rfl #[.pointer (some ⟨gb216, 0, none⟩), .int .u32 t276, .int .u32 0, .int .u32 64] rfl (by (try simp only [List.map_toArray, List.map_cons, List.map_nil]); first | done | rfl | (simp only [List.length_drop, List.length_take]; rfl)) ?_; (with_reducible refine (csr_File_Trap.calls gb216 t278 t279 t280 t281 t282 t283 t284 t285 t286 t287 t288 t276 0 64 t289 t290 t291 t292 t293 t294 t295 t296 t297 t298 t299 t300 w _ ?side1 ?side2 A39.out).mono ?_); (case side1 => exact And.intro (by (with_reducible repeat (first | refine blk_drewN ?_ _ | refine blk_drew ?_ | refine blk_alloc ?_ _)); exact BK216.out) GW216.out); (case side2 => repeat (first | (with_reducible first | exact HB.out | apply below_alloc | apply pw_below_drewN | apply below_drew1 | refine below_set ?_ GE216.out) | exact HB.out)); rintro e w45 ⟨rfl, hi, hb, hk⟩; refine ⟨_, rfl, ?_⟩; have n0_ := Aside0.mk (hb); have n1_ := Aside0.mk ((And.left hi)); clear HB; clear BK216; have HB := n0_; have BK216 := n1_; clear n0_ n1_; (try clear hb); (try clear hb2); (try clear hk); (try clear hi)) | ((with_reducible refine gate_callee (f := 30) rfl ?_); refine goesL_ (some 70) rfl rfl Try.func30 (by kernel_rfl) rfl #[.pointer (some ⟨gb216, 0, none⟩)] rfl (by (try simp only [List.map_toArray, List.map_cons, List.map_nil]); first | done | rfl | (simp only [List.length_drop, List.length_take]; rfl)) ?_; (with_reducible refine (csr_File_Pending.calls gb216 t290 t291 t292 t293 t294 t295 t296 t297 t298 t299 t300 t301 false t303 t304 t305 t306 t307 t308 t309 t310 t311 t312 t313 w _ ?side1 ?side2 A40.out).mono ?_); (case side1 => exact And.intro (by (with_reducible repeat (first | refine blk_drewN ?_ _ | refine blk_drew ?_ | refine blk_alloc ?_ _)); exact BK216.out) GW216.out); (case side2 => repeat (first | (with_reducible first | exact HB.out | apply below_alloc | apply pw_below_drewN | apply below_drew1 | refine below_set ?_ GE216.out) | exact HB.out)); rintro e w46 ⟨rfl, hi, hb, hk⟩; refine ⟨_, rfl, ?_⟩; have n0_ := Aside0.mk (hb); have n1_ := Aside0.mk ((And.left hi)); clear HB; clear BK216; have HB := n0_; have BK216 := n1_; clear n0_ n1_; (try clear hb); (try clear hb2); (try clear hk); (try clear hi)) | ((with_reducible refine gate_callee (f := 29) rfl ?_); refine goesL_ (some 73) rfl rfl Try.func29 (by kernel_rfl) rfl #[.pointer (some ⟨gb216, 0, none⟩), .bool false] rfl (by (try simp only [List.map_toArray, List.map_cons, List.map_nil]); first | done | rfl | (simp only [List.length_drop, List.length_take]; rfl)) ?_; (with_reducible refine (csr_File_Bell.calls gb216 t303 t304 t305 t306 t307 t308 t309 t310 t311 t312 t313 false t314 t315 t316 t317 t318 t319 t320 t321 t322 t323 t324 w _ ?side1 ?side2 A41.out).mono ?_); (case side1 => exact And.intro (by (with_reducible repeat (first | refine blk_drewN ?_ _ | refine blk_drew ?_ | refine blk_alloc ?_ _)); exact BK216.out) GW216.out); (case side2 => repeat (first | (with_reducible first | exact HB.out | apply below_alloc | apply pw_below_drewN | apply below_drew1 | refine below_set ?_ GE216.out) | exact HB.out)); rintro e w47 ⟨rfl, hi, hb, hk⟩; refine ⟨_, rfl, ?_⟩; have n0_ := Aside0.mk (hb); have n1_ := Aside0.mk ((And.left hi)); clear HB; clear BK216; have HB := n0_; have BK216 := n1_; clear n0_ n1_; (try clear hb); (try clear hb2); (try clear hk); (try clear hi)) | ((with_reducible refine gate_callee (f := 26) rfl ?_); refine goesL_ (some 74) rfl rfl Try.func26 (by kernel_rfl) rfl #[.pointer (some ⟨gb216, 0, none⟩)] rfl (by (try simp only [List.map_toArray, List.map_cons, List.map_nil]); first | done | rfl | (simp only [List.length_drop, List.length_take]; rfl)) ?_; (with_reducible refine (csr_File_Return.calls gb216 t314 t315 t316 t317 t318 t319 t320 t321 t322 t323 t324 t325 t326 t327 t328 t329 t330 t331 t332 t333 t334 t335 t336 w _ ?side1 ?side2 A42.out).mono ?_); (case side1 => exact And.intro (by (with_reducible repeat (first | refine blk_drewN ?_ _ | refine blk_drew ?_ | refine blk_alloc ?_ _)); exact BK216.out) GW216.out); (case side2 => repeat (first | (with_reducible first | exact HB.out | apply below_alloc | apply pw_below_drewN | apply below_drew1 | refine below_set ?_ GE216.out) | exact HB.out)); rintro e w48 ⟨rfl, hi, hb, hk⟩; refine ⟨_, rfl, ?_⟩; have n0_ := Aside0.mk (hb); have n1_ := Aside0.mk ((And.left hi)); clear HB; clear BK216; have HB := n0_; have BK216 := n1_; clear n0_ n1_; (try clear hb); (try clear hb2); (try clear hk); (try clear hi)) | ((with_reducible refine gate_callee (f := 30) rfl ?_); refine goesL_ (some 76) rfl rfl Try.func30 (by kernel_rfl) rfl #[.pointer (some ⟨gb216, 0, none⟩)] rfl (by (try simp only [List.map_toArray, List.map_cons, List.map_nil]); first | done | rfl | (simp only [List.length_drop, List.length_take]; rfl)) ?_; (with_reducible refine (csr_File_Pending.calls gb216 t326 t327 t328 t329 t330 t331 t332 t333 t334 t335 t336 t337 t338 t339 t340 t341 t342 t343 t344 t345 t346 t347 t348 t349 w _ ?side1 ?side2 A43.out).mono ?_); (case side1 => exact And.intro (by (with_reducible repeat (first | refine blk_drewN ?_ _ | refine blk_drew ?_ | refine blk_alloc ?_ _)); exact BK216.out) GW216.out); (case side2 => repeat (first | (with_reducible first | exact HB.out | apply below_alloc | apply pw_below_drewN | apply below_drew1 | refine below_set ?_ GE216.out) | exact HB.out)); rintro e w49 ⟨rfl, hi, hb, hk⟩; refine ⟨_, rfl, ?_⟩; have n0_ := Aside0.mk (hb); have n1_ := Aside0.mk ((And.left hi)); clear HB; clear BK216; have HB := n0_; have BK216 := n1_; clear n0_ n1_; (try clear hb); (try clear hb2); (try clear hk); (try clear hi)))
                            go_ret
                            exact ⟨by first | rfl | (simp [errW_none, errW_some] <;> rfl) | (simp [*, errW_none, errW_some] <;> rfl), by repeat (first | (with_reducible first | exact HB.out | apply below_alloc | apply pw_below_drewN | apply below_drew1 | refine below_set ?_ GE216.out) | exact HB.out)⟩
  · replace c6 := Bool.eq_false_iff.mpr c6
    subst c6
    have H1 : (some false) = some r := by rw [if_neg (show ¬ (false = true) by decide)] at H; exact H
    clear H
    have H := H1
    clear H1
    exact absurd (Option.some.inj H) (by rw [HRT.out]; decide)

/-- THE ONE PURE STATEMENT of corrallaw6_CsrBells: yours. -/
def corrallaw6_CsrBells.Pure : Prop := ∀ (a0 : Bool) (a1 : Bool) (a2 : Bool) (a3 : Bool), ∃ k, corrallaw6_CsrBells.f k a0 a1 a2 a3 = some true
theorem corrallaw6_CsrBells.walk (P : corrallaw6_CsrBells.Pure) (a0 : Bool) (a1 : Bool) (a2 : Bool) (a3 : Bool) (w : World)  :
    Calls Try.prog 11 #[.bool a0, .bool a1, .bool a2, .bool a3] w fun e w' => e = .returned (.bool true) ∧ Below w.heap.size w w' := by
  obtain ⟨k, h⟩ := P a0 a1 a2 a3 
  refine (corrallaw6_CsrBells.calls k a0 a1 a2 a3 true w h rfl).mono ?_
  rintro e w' ⟨rfl, hd⟩
  exact ⟨rfl, hd⟩

end Go.Proofs.Ytcaohimipkoapaa.QCsrBells
