-- Laid by a program of this session (wip/tpl/mine.sh), out of the program's form in Lean: Lean checks it.
import Derived.Test.YtcaohimipkoapaaQEncJoinsx0
import Derived.Test.YtcaohimipkoapaaQEncJoinsx2
namespace Go.Proofs.Ytcaohimipkoapaa.QEncJoins
open Go.RowKit Go.Proofs.YtcaohimipkoapaaW.PrintWords Go.Proofs.YtcaohimipkoapaaW.PrintLast Go.Proofs.YtcaohimipkoapaaW.PrintMore
attribute [local go_sem] max2_int min2_int max_two min_two max_three min_three max_four min_four   -- for this text's walks alone
set_option linter.unusedVariables false
set_option linter.unusedSimpArgs false

/-! ### corrallaw2_EncJoins: function 6 -/
def corrallaw2_EncJoins.f (k : Nat) (a0 : Int) (a1 : Int) (a2 : Int) (a3 : Int) (a4 : Int) (a5 : Int) : Option (Bool) := (corrallaw2_first.f k).bind fun t154 => (if t154 = true then ((enc_Join.f k a0 a1 a2 a3 a4 a5).bind fun t155 => ((enc_Split.f t155).bind fun bt156 => (if bt156.1 = (Go.bits .and .u32 a0 127) then (if bt156.2.1 = (Go.bits .and .u32 a1 31) then (if bt156.2.2.1 = (Go.bits .and .u32 a2 7) then (if bt156.2.2.2.1 = (Go.bits .and .u32 a3 31) then (if bt156.2.2.2.2.1 = (Go.bits .and .u32 a4 31) then (some (bt156.2.2.2.2.2 == (Go.bits .and .u32 a5 127))) else (some false)) else (some false)) else (some false)) else (some false)) else (some false)))) else (some false))
theorem corrallaw2_EncJoins.mono : ∀ a0 a1 a2 a3 a4 a5 k, LeO (corrallaw2_EncJoins.f k a0 a1 a2 a3 a4 a5) (corrallaw2_EncJoins.f (k + 1) a0 a1 a2 a3 a4 a5) := by
  intro a0 a1 a2 a3 a4 a5 k
  unfold corrallaw2_EncJoins.f
  repeat' first
      | (with_reducible exact corrallaw2_first.mono _)
      | (with_reducible exact enc_Join.mono _ _ _ _ _ _ _)
      | (with_reducible exact LeO.refl _)
      | (with_reducible exact LeO.none _)
      | (with_reducible refine LeO.ite ?_ ?_)
      | (with_reducible refine LeO.bind ?_ (fun _ => ?_))
      | exact corrallaw2_first.mono _
      | exact enc_Join.mono _ _ _ _ _ _ _
      | exact LeO.none _
      | refine LeO.ite ?_ ?_
      | refine LeO.bind ?_ (fun _ => ?_)
set_option maxHeartbeats 8000000 in
set_option maxRecDepth 100000 in
theorem corrallaw2_EncJoins.calls (k : Nat) (a0 : Int) (a1 : Int) (a2 : Int) (a3 : Int) (a4 : Int) (a5 : Int) (r : Bool) (w : World) (h : corrallaw2_EncJoins.f k a0 a1 a2 a3 a4 a5 = some r) (hrtrue : r = true) :
    Calls Try.prog 6 #[.int .u32 a0, .int .u32 a1, .int .u32 a2, .int .u32 a3, .int .u32 a4, .int .u32 a5] w fun e w' => e = .returned (.bool r) ∧ Below w.heap.size w w' := by
  have hu32 := Try.underlying32
  have HB := Aside0.mk (Below.refl w.heap.size w)
  have H : ((corrallaw2_first.f k).bind fun t154 => (if t154 = true then ((enc_Join.f k a0 a1 a2 a3 a4 a5).bind fun t155 => ((enc_Split.f t155).bind fun bt156 => (if bt156.1 = (Go.bits .and .u32 a0 127) then (if bt156.2.1 = (Go.bits .and .u32 a1 31) then (if bt156.2.2.1 = (Go.bits .and .u32 a2 7) then (if bt156.2.2.2.1 = (Go.bits .and .u32 a3 31) then (if bt156.2.2.2.2.1 = (Go.bits .and .u32 a4 31) then (some (bt156.2.2.2.2.2 == (Go.bits .and .u32 a5 127))) else (some false)) else (some false)) else (some false)) else (some false)) else (some false)))) else (some false))) = some r := h
  clear h
  have HRT := Aside0.mk hrtrue
  clear hrtrue
  replace H := Option.bind_eq_some_iff.mp H
  obtain ⟨t154, A70, H⟩ := H
  replace H : (if t154 = true then ((enc_Join.f k a0 a1 a2 a3 a4 a5).bind fun t155 => ((enc_Split.f t155).bind fun bt156 => (if bt156.1 = (Go.bits .and .u32 a0 127) then (if bt156.2.1 = (Go.bits .and .u32 a1 31) then (if bt156.2.2.1 = (Go.bits .and .u32 a2 7) then (if bt156.2.2.2.1 = (Go.bits .and .u32 a3 31) then (if bt156.2.2.2.2.1 = (Go.bits .and .u32 a4 31) then (some (bt156.2.2.2.2.2 == (Go.bits .and .u32 a5 127))) else (some false)) else (some false)) else (some false)) else (some false)) else (some false)))) else (some false)) = some r := H
  have A7 := Aside0.mk A70
  clear A70
  by_cases c8 : t154 = true
  · subst c8
    have H1 : ((enc_Join.f k a0 a1 a2 a3 a4 a5).bind fun t155 => ((enc_Split.f t155).bind fun bt156 => (if bt156.1 = (Go.bits .and .u32 a0 127) then (if bt156.2.1 = (Go.bits .and .u32 a1 31) then (if bt156.2.2.1 = (Go.bits .and .u32 a2 7) then (if bt156.2.2.2.1 = (Go.bits .and .u32 a3 31) then (if bt156.2.2.2.2.1 = (Go.bits .and .u32 a4 31) then (some (bt156.2.2.2.2.2 == (Go.bits .and .u32 a5 127))) else (some false)) else (some false)) else (some false)) else (some false)) else (some false)))) = some r := by rw [if_pos rfl] at H; exact H
    clear H
    have H := H1
    clear H1
    replace H := Option.bind_eq_some_iff.mp H
    obtain ⟨t155, A90, H⟩ := H
    replace H : ((enc_Split.f t155).bind fun bt156 => (if bt156.1 = (Go.bits .and .u32 a0 127) then (if bt156.2.1 = (Go.bits .and .u32 a1 31) then (if bt156.2.2.1 = (Go.bits .and .u32 a2 7) then (if bt156.2.2.2.1 = (Go.bits .and .u32 a3 31) then (if bt156.2.2.2.2.1 = (Go.bits .and .u32 a4 31) then (some (bt156.2.2.2.2.2 == (Go.bits .and .u32 a5 127))) else (some false)) else (some false)) else (some false)) else (some false)) else (some false))) = some r := H
    have A9 := Aside0.mk A90
    clear A90
    replace H := Option.bind_eq_some_iff.mp H
    obtain ⟨⟨t156, t157, t158, t159, t160, t161⟩, A100, H⟩ := H
    replace H : (if t156 = (Go.bits .and .u32 a0 127) then (if t157 = (Go.bits .and .u32 a1 31) then (if t158 = (Go.bits .and .u32 a2 7) then (if t159 = (Go.bits .and .u32 a3 31) then (if t160 = (Go.bits .and .u32 a4 31) then (some (t161 == (Go.bits .and .u32 a5 127))) else (some false)) else (some false)) else (some false)) else (some false)) else (some false)) = some r := H
    have A10 := Aside0.mk A100
    clear A100
    by_cases c11 : t156 = (Go.bits .and .u32 a0 127)
    · rw [if_pos c11] at H
      have c11b0 : (t156 == (Go.bits .and .u32 a0 127)) = true := beq_iff_eq.mpr c11
      have c11b1 : (t156 != (Go.bits .and .u32 a0 127)) = false := bne_eq_false_iff_eq.mpr c11
      clear c11
      by_cases c12 : t157 = (Go.bits .and .u32 a1 31)
      · rw [if_pos c12] at H
        have c12b0 : (t157 == (Go.bits .and .u32 a1 31)) = true := beq_iff_eq.mpr c12
        have c12b1 : (t157 != (Go.bits .and .u32 a1 31)) = false := bne_eq_false_iff_eq.mpr c12
        clear c12
        by_cases c13 : t158 = (Go.bits .and .u32 a2 7)
        · rw [if_pos c13] at H
          have c13b0 : (t158 == (Go.bits .and .u32 a2 7)) = true := beq_iff_eq.mpr c13
          have c13b1 : (t158 != (Go.bits .and .u32 a2 7)) = false := bne_eq_false_iff_eq.mpr c13
          clear c13
          by_cases c14 : t159 = (Go.bits .and .u32 a3 31)
          · rw [if_pos c14] at H
            have c14b0 : (t159 == (Go.bits .and .u32 a3 31)) = true := beq_iff_eq.mpr c14
            have c14b1 : (t159 != (Go.bits .and .u32 a3 31)) = false := bne_eq_false_iff_eq.mpr c14
            clear c14
            by_cases c15 : t160 = (Go.bits .and .u32 a4 31)
            · rw [if_pos c15] at H
              have c15b0 : (t160 == (Go.bits .and .u32 a4 31)) = true := beq_iff_eq.mpr c15
              have c15b1 : (t160 != (Go.bits .and .u32 a4 31)) = false := bne_eq_false_iff_eq.mpr c15
              clear c15
              clear HRT
              obtain rfl := Option.some.inj H
              go_enter Try.func6, Try.ntmps6
              go_wp2_with (first | ((with_reducible refine gate_callee (f := 13) rfl ?_); refine goesL_ (some 15) rfl rfl Try.func13 (by kernel_rfl) rfl #[] rfl (by (try simp only [List.map_toArray, List.map_cons, List.map_nil]); first | done | rfl | (simp only [List.length_drop, List.length_take]; rfl)) ?_; (with_reducible refine (corrallaw2_first.calls k  true _ A7.out).mono ?_); rintro e w16 ⟨rfl, hb⟩; refine ⟨_, rfl, ?_⟩; have n0_ := Aside0.mk (below_step (by repeat (first | (with_reducible first | exact HB.out | apply below_alloc | apply pw_below_drewN | apply below_drew1) | exact HB.out)) hb); clear HB; have HB := n0_; clear n0_; (try clear hb); (try clear hb2); (try clear hk); (try clear hi)) | ((with_reducible refine gate_callee (f := 17) rfl ?_); refine goesL_ (some 25) rfl rfl Try.func17 (by kernel_rfl) rfl #[.agg #[.int .u32 a0, .int .u32 a1, .int .u32 a2, .int .u32 a3, .int .u32 a4, .int .u32 a5]] rfl (by (try simp only [List.map_toArray, List.map_cons, List.map_nil]); first | done | rfl | (simp only [List.length_drop, List.length_take]; rfl)) ?_; (with_reducible refine (enc_Join.calls k a0 a1 a2 a3 a4 a5 t155 _ A9.out).mono ?_); rintro e w17 ⟨rfl, hb⟩; refine ⟨_, rfl, ?_⟩; have n0_ := Aside0.mk (below_step (by repeat (first | (with_reducible first | exact HB.out | apply below_alloc | apply pw_below_drewN | apply below_drew1) | exact HB.out)) hb); clear HB; have HB := n0_; clear n0_; (try clear hb); (try clear hb2); (try clear hk); (try clear hi)) | ((with_reducible refine gate_callee (f := 16) rfl ?_); refine goesL_ (some 26) rfl rfl Try.func16 (by kernel_rfl) rfl #[.int .u32 t155] rfl (by (try simp only [List.map_toArray, List.map_cons, List.map_nil]); first | done | rfl | (simp only [List.length_drop, List.length_take]; rfl)) ?_; (with_reducible refine (enc_Split.calls t155 t156 t157 t158 t159 t160 t161 _ A10.out).mono ?_); rintro e w18 ⟨rfl, hb⟩; refine ⟨_, rfl, ?_⟩; have n0_ := Aside0.mk (below_step (by repeat (first | (with_reducible first | exact HB.out | apply below_alloc | apply pw_below_drewN | apply below_drew1) | exact HB.out)) hb); clear HB; have HB := n0_; clear n0_; (try clear hb); (try clear hb2); (try clear hk); (try clear hi)) | ((with_reducible refine gate_dst (N := 14) rfl ?_); refine box_event ?hg (N := 14) ?hd (cs := #[.int .u32 0, .int .u32 0, .int .u32 0, .int .u32 0, .int .u32 0, .int .u32 0]) (t := 32) ?hr ?_; (case hd => rfl); (case hg => rfl); (case hr => first | (go_simp; done) | (go_simp; rfl)); intro gb162 hg w19 hbox hb; have n0_ := Aside0.mk (below_step (by repeat (first | (with_reducible first | exact HB.out | apply below_alloc | apply pw_below_drewN | apply below_drew1) | exact HB.out)) hb); have n1_ := Aside0.mk (hbox); have n2_ := Aside0.mk ((by rw [hg]; exact (below_size (by repeat (first | (with_reducible first | exact HB.out | apply below_alloc | apply pw_below_drewN | apply below_drew1) | exact HB.out))) : w.heap.size ≤ gb162)); have n3_ := Aside0.mk ((by rw [hg]; exact (below_size (by repeat (first | (with_reducible first | exact HB.out | apply below_alloc | apply pw_below_drewN | apply below_drew1) | exact HB.out))) : w.heap.size ≤ gb162)); clear HB; have HB := n0_; have BK162 := n1_; have GW162 := n2_; have GE162 := n3_; clear n0_ n1_ n2_ n3_; clear hb hbox hg; have hcz20_0 : w19.cell? ⟨gb162, 0, none⟩ = some (.int .u32 0) := (blk_cell BK162.out 0).trans rfl; have hcz20_1 : w19.cell? ⟨gb162, 1, none⟩ = some (.int .u32 0) := (blk_cell BK162.out 1).trans rfl; have hcz20_2 : w19.cell? ⟨gb162, 2, none⟩ = some (.int .u32 0) := (blk_cell BK162.out 2).trans rfl; have hcz20_3 : w19.cell? ⟨gb162, 3, none⟩ = some (.int .u32 0) := (blk_cell BK162.out 3).trans rfl; have hcz20_4 : w19.cell? ⟨gb162, 4, none⟩ = some (.int .u32 0) := (blk_cell BK162.out 4).trans rfl; have hcz20_5 : w19.cell? ⟨gb162, 5, none⟩ = some (.int .u32 0) := (blk_cell BK162.out 5).trans rfl; have hfz20_0 := blk_frozen BK162.out 0; have hfz20_1 := blk_frozen BK162.out 1; have hfz20_2 := blk_frozen BK162.out 2; have hfz20_3 := blk_frozen BK162.out 3; have hfz20_4 := blk_frozen BK162.out 4; have hfz20_5 := blk_frozen BK162.out 5))
              go_ret
              exact ⟨by first | rfl | (simp [errW_none, errW_some] <;> rfl) | (simp [*, errW_none, errW_some] <;> rfl), by repeat (first | (with_reducible first | exact HB.out | apply below_alloc | apply pw_below_drewN | apply below_drew1 | refine below_set ?_ GE162.out) | exact HB.out)⟩
            · rw [if_neg c15] at H
              have c15b0 : (t160 == (Go.bits .and .u32 a4 31)) = false := beq_eq_false_iff_ne.mpr c15
              have c15b1 : (t160 != (Go.bits .and .u32 a4 31)) = true := bne_iff_ne.mpr c15
              exact absurd (Option.some.inj H) (by rw [HRT.out]; decide)
          · rw [if_neg c14] at H
            have c14b0 : (t159 == (Go.bits .and .u32 a3 31)) = false := beq_eq_false_iff_ne.mpr c14
            have c14b1 : (t159 != (Go.bits .and .u32 a3 31)) = true := bne_iff_ne.mpr c14
            exact absurd (Option.some.inj H) (by rw [HRT.out]; decide)
        · rw [if_neg c13] at H
          have c13b0 : (t158 == (Go.bits .and .u32 a2 7)) = false := beq_eq_false_iff_ne.mpr c13
          have c13b1 : (t158 != (Go.bits .and .u32 a2 7)) = true := bne_iff_ne.mpr c13
          exact absurd (Option.some.inj H) (by rw [HRT.out]; decide)
      · rw [if_neg c12] at H
        have c12b0 : (t157 == (Go.bits .and .u32 a1 31)) = false := beq_eq_false_iff_ne.mpr c12
        have c12b1 : (t157 != (Go.bits .and .u32 a1 31)) = true := bne_iff_ne.mpr c12
        exact absurd (Option.some.inj H) (by rw [HRT.out]; decide)
    · rw [if_neg c11] at H
      have c11b0 : (t156 == (Go.bits .and .u32 a0 127)) = false := beq_eq_false_iff_ne.mpr c11
      have c11b1 : (t156 != (Go.bits .and .u32 a0 127)) = true := bne_iff_ne.mpr c11
      exact absurd (Option.some.inj H) (by rw [HRT.out]; decide)
  · replace c8 := Bool.eq_false_iff.mpr c8
    subst c8
    have H1 : (some false) = some r := by rw [if_neg (show ¬ (false = true) by decide)] at H; exact H
    clear H
    have H := H1
    clear H1
    exact absurd (Option.some.inj H) (by rw [HRT.out]; decide)

/-- THE ONE PURE STATEMENT of corrallaw2_EncJoins: yours. -/
def corrallaw2_EncJoins.Pure : Prop := ∀ (a0 : Int) (a1 : Int) (a2 : Int) (a3 : Int) (a4 : Int) (a5 : Int), (Lit.int .u32 a0).wf = true → (Lit.int .u32 a1).wf = true → (Lit.int .u32 a2).wf = true → (Lit.int .u32 a3).wf = true → (Lit.int .u32 a4).wf = true → (Lit.int .u32 a5).wf = true → ∃ k, corrallaw2_EncJoins.f k a0 a1 a2 a3 a4 a5 = some true
theorem corrallaw2_EncJoins.walk (P : corrallaw2_EncJoins.Pure) (a0 : Int) (a1 : Int) (a2 : Int) (a3 : Int) (a4 : Int) (a5 : Int) (w : World) (w0 : (Lit.int .u32 a0).wf = true) (w1 : (Lit.int .u32 a1).wf = true) (w2 : (Lit.int .u32 a2).wf = true) (w3 : (Lit.int .u32 a3).wf = true) (w4 : (Lit.int .u32 a4).wf = true) (w5 : (Lit.int .u32 a5).wf = true) :
    Calls Try.prog 6 #[.int .u32 a0, .int .u32 a1, .int .u32 a2, .int .u32 a3, .int .u32 a4, .int .u32 a5] w fun e w' => e = .returned (.bool true) ∧ Below w.heap.size w w' := by
  obtain ⟨k, h⟩ := P a0 a1 a2 a3 a4 a5 w0 w1 w2 w3 w4 w5
  refine (corrallaw2_EncJoins.calls k a0 a1 a2 a3 a4 a5 true w h rfl).mono ?_
  rintro e w' ⟨rfl, hd⟩
  exact ⟨rfl, hd⟩

end Go.Proofs.Ytcaohimipkoapaa.QEncJoins
