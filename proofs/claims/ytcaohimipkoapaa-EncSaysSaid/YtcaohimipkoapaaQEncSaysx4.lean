-- Laid by a program of this session (wip/tpl/mine.sh), out of the program's form in Lean: Lean checks it.
import Derived.Test.YtcaohimipkoapaaQEncSaysx0
import Derived.Test.YtcaohimipkoapaaQEncSaysx1
import Derived.Test.YtcaohimipkoapaaQEncSaysx2
import Derived.Test.YtcaohimipkoapaaQEncSaysx3
import Derived.Test.YtcaohimipkoapaaQEncSaysNil
namespace Go.Proofs.Ytcaohimipkoapaa.QEncSays
open Go.RowKit Go.Proofs.YtcaohimipkoapaaW.PrintWords Go.Proofs.YtcaohimipkoapaaW.PrintLast Go.Proofs.YtcaohimipkoapaaW.PrintMore
attribute [local go_sem] max2_int min2_int max_two min_two max_three min_three max_four min_four   -- for this text's walks alone
set_option linter.unusedVariables false
set_option linter.unusedSimpArgs false

/-! ### corrallaw2_EncSays: function 5 -/
def corrallaw2_EncSays.j0 : Nat → Int → Int → Int → Bool → Bool → Option (Bool)
  | 0, _, _, _, _, _ => none
  | k + 1, x0, x1, x2, x7, x67 => if x67 = true then (some false) else ((enc_LayAll.f k x2 x1).bind fun bt197 => ((corralref1_Lay.f k x2 x1).bind fun bt199 => (if x7 = true then ((enc_Imm.f k x2 x0).bind fun t201 => ((corralref1_Imm.f k x2 x0).bind fun t202 => (if t201 = t202 then (if (bt197.2 == bt199.2) = true then (some (bt197.1 == bt199.1)) else (some false)) else (some false)))) else (some false))))
def corrallaw2_EncSays.f (k : Nat) (a0 : Int) (a1 : Int) (a2 : Int) : Option (Bool) := (corrallaw2_first.f k).bind fun t188 => (if t188 = true then ((enc_Split.f a0).bind fun bt189 => (if bt189.1 = (Go.bits .and .u32 a0 127) then (if bt189.2.1 = (Go.bits .and .u32 (a0 / 128) 31) then (if bt189.2.2.1 = (Go.bits .and .u32 (a0 / 4096) 7) then (if bt189.2.2.2.1 = (Go.bits .and .u32 (a0 / 32768) 31) then (if bt189.2.2.2.2.1 = (Go.bits .and .u32 (a0 / 1048576) 31) then (if bt189.2.2.2.2.2 = (a0 / 33554432) then ((enc_Join.f k bt189.1 bt189.2.1 bt189.2.2.1 bt189.2.2.2.1 bt189.2.2.2.2.1 bt189.2.2.2.2.2).bind fun t196 => (corrallaw2_EncSays.j0 k a0 a1 a2 t188 (t196 != a0))) else (corrallaw2_EncSays.j0 k a0 a1 a2 t188 true)) else (corrallaw2_EncSays.j0 k a0 a1 a2 t188 true)) else (corrallaw2_EncSays.j0 k a0 a1 a2 t188 true)) else (corrallaw2_EncSays.j0 k a0 a1 a2 t188 true)) else (corrallaw2_EncSays.j0 k a0 a1 a2 t188 true)) else (corrallaw2_EncSays.j0 k a0 a1 a2 t188 true))) else (some false))
theorem corrallaw2_EncSays.mono_l : ∀ k, (∀ y0 y1 y2 y3 y4, LeO (corrallaw2_EncSays.j0 k y0 y1 y2 y3 y4) (corrallaw2_EncSays.j0 (k + 1) y0 y1 y2 y3 y4))
  | 0 => fun _ _ _ _ _ r h => by simp [corrallaw2_EncSays.j0] at h
  | k + 1 => by
    have ih0 := corrallaw2_EncSays.mono_l k
    · intro y0 y1 y2 y3 y4
      unfold corrallaw2_EncSays.j0
      repeat' first
      | (with_reducible exact ih0 _ _ _ _ _)
      | (with_reducible exact corrallaw2_first.mono _)
      | (with_reducible exact corralref1_Imm.mono _ _ _)
      | (with_reducible exact corralref1_Lay.mono _ _ _)
      | (with_reducible exact enc_Imm.mono _ _ _)
      | (with_reducible exact enc_Join.mono _ _ _ _ _ _ _)
      | (with_reducible exact enc_LayAll.mono _ _ _)
      | (with_reducible exact LeO.refl _)
      | (with_reducible exact LeO.none _)
      | (with_reducible refine LeO.ite ?_ ?_)
      | (with_reducible refine LeO.bind ?_ (fun _ => ?_))
      | exact ih0 _ _ _ _ _
      | exact corrallaw2_first.mono _
      | exact corralref1_Imm.mono _ _ _
      | exact corralref1_Lay.mono _ _ _
      | exact enc_Imm.mono _ _ _
      | exact enc_Join.mono _ _ _ _ _ _ _
      | exact enc_LayAll.mono _ _ _
      | exact LeO.none _
      | refine LeO.ite ?_ ?_
      | refine LeO.bind ?_ (fun _ => ?_)
theorem corrallaw2_EncSays.mono : ∀ a0 a1 a2 k, LeO (corrallaw2_EncSays.f k a0 a1 a2) (corrallaw2_EncSays.f (k + 1) a0 a1 a2) := by
  intro a0 a1 a2 k
  have ih0 := corrallaw2_EncSays.mono_l k
  unfold corrallaw2_EncSays.f
  repeat' first
      | (with_reducible exact ih0 _ _ _ _ _)
      | (with_reducible exact corrallaw2_first.mono _)
      | (with_reducible exact corralref1_Imm.mono _ _ _)
      | (with_reducible exact corralref1_Lay.mono _ _ _)
      | (with_reducible exact enc_Imm.mono _ _ _)
      | (with_reducible exact enc_Join.mono _ _ _ _ _ _ _)
      | (with_reducible exact enc_LayAll.mono _ _ _)
      | (with_reducible exact LeO.refl _)
      | (with_reducible exact LeO.none _)
      | (with_reducible refine LeO.ite ?_ ?_)
      | (with_reducible refine LeO.bind ?_ (fun _ => ?_))
      | exact ih0 _ _ _ _ _
      | exact corrallaw2_first.mono _
      | exact corralref1_Imm.mono _ _ _
      | exact corralref1_Lay.mono _ _ _
      | exact enc_Imm.mono _ _ _
      | exact enc_Join.mono _ _ _ _ _ _ _
      | exact enc_LayAll.mono _ _ _
      | exact LeO.none _
      | refine LeO.ite ?_ ?_
      | refine LeO.bind ?_ (fun _ => ?_)
set_option maxHeartbeats 8000000 in
set_option maxRecDepth 100000 in
theorem corrallaw2_EncSays.calls (k : Nat) (a0 : Int) (a1 : Int) (a2 : Int) (r : Bool) (w : World) (h : corrallaw2_EncSays.f k a0 a1 a2 = some r) (hrtrue : r = true) :
    Calls Try.prog 5 #[.int .u32 a0, .int .u32 a1, .int .u8 a2] w fun e w' => e = .returned (.bool r) ∧ Below w.heap.size w w' := by
  have hu32 := Try.underlying32
  have HB := Aside0.mk (Below.refl w.heap.size w)
  have H : ((corrallaw2_first.f k).bind fun t188 => (if t188 = true then ((enc_Split.f a0).bind fun bt189 => (if bt189.1 = (Go.bits .and .u32 a0 127) then (if bt189.2.1 = (Go.bits .and .u32 (a0 / 128) 31) then (if bt189.2.2.1 = (Go.bits .and .u32 (a0 / 4096) 7) then (if bt189.2.2.2.1 = (Go.bits .and .u32 (a0 / 32768) 31) then (if bt189.2.2.2.2.1 = (Go.bits .and .u32 (a0 / 1048576) 31) then (if bt189.2.2.2.2.2 = (a0 / 33554432) then ((enc_Join.f k bt189.1 bt189.2.1 bt189.2.2.1 bt189.2.2.2.1 bt189.2.2.2.2.1 bt189.2.2.2.2.2).bind fun t196 => (corrallaw2_EncSays.j0 k a0 a1 a2 t188 (t196 != a0))) else (corrallaw2_EncSays.j0 k a0 a1 a2 t188 true)) else (corrallaw2_EncSays.j0 k a0 a1 a2 t188 true)) else (corrallaw2_EncSays.j0 k a0 a1 a2 t188 true)) else (corrallaw2_EncSays.j0 k a0 a1 a2 t188 true)) else (corrallaw2_EncSays.j0 k a0 a1 a2 t188 true)) else (corrallaw2_EncSays.j0 k a0 a1 a2 t188 true))) else (some false))) = some r := h
  clear h
  have HRT := Aside0.mk hrtrue
  clear hrtrue
  replace H := Option.bind_eq_some_iff.mp H
  obtain ⟨t188, A40, H⟩ := H
  replace H : (if t188 = true then ((enc_Split.f a0).bind fun bt189 => (if bt189.1 = (Go.bits .and .u32 a0 127) then (if bt189.2.1 = (Go.bits .and .u32 (a0 / 128) 31) then (if bt189.2.2.1 = (Go.bits .and .u32 (a0 / 4096) 7) then (if bt189.2.2.2.1 = (Go.bits .and .u32 (a0 / 32768) 31) then (if bt189.2.2.2.2.1 = (Go.bits .and .u32 (a0 / 1048576) 31) then (if bt189.2.2.2.2.2 = (a0 / 33554432) then ((enc_Join.f k bt189.1 bt189.2.1 bt189.2.2.1 bt189.2.2.2.1 bt189.2.2.2.2.1 bt189.2.2.2.2.2).bind fun t196 => (corrallaw2_EncSays.j0 k a0 a1 a2 t188 (t196 != a0))) else (corrallaw2_EncSays.j0 k a0 a1 a2 t188 true)) else (corrallaw2_EncSays.j0 k a0 a1 a2 t188 true)) else (corrallaw2_EncSays.j0 k a0 a1 a2 t188 true)) else (corrallaw2_EncSays.j0 k a0 a1 a2 t188 true)) else (corrallaw2_EncSays.j0 k a0 a1 a2 t188 true)) else (corrallaw2_EncSays.j0 k a0 a1 a2 t188 true))) else (some false)) = some r := H
  have A4 := Aside0.mk A40
  clear A40
  by_cases c5 : t188 = true
  · subst c5
    have H1 : ((enc_Split.f a0).bind fun bt189 => (if bt189.1 = (Go.bits .and .u32 a0 127) then (if bt189.2.1 = (Go.bits .and .u32 (a0 / 128) 31) then (if bt189.2.2.1 = (Go.bits .and .u32 (a0 / 4096) 7) then (if bt189.2.2.2.1 = (Go.bits .and .u32 (a0 / 32768) 31) then (if bt189.2.2.2.2.1 = (Go.bits .and .u32 (a0 / 1048576) 31) then (if bt189.2.2.2.2.2 = (a0 / 33554432) then ((enc_Join.f k bt189.1 bt189.2.1 bt189.2.2.1 bt189.2.2.2.1 bt189.2.2.2.2.1 bt189.2.2.2.2.2).bind fun t196 => (corrallaw2_EncSays.j0 k a0 a1 a2 true (t196 != a0))) else (corrallaw2_EncSays.j0 k a0 a1 a2 true true)) else (corrallaw2_EncSays.j0 k a0 a1 a2 true true)) else (corrallaw2_EncSays.j0 k a0 a1 a2 true true)) else (corrallaw2_EncSays.j0 k a0 a1 a2 true true)) else (corrallaw2_EncSays.j0 k a0 a1 a2 true true)) else (corrallaw2_EncSays.j0 k a0 a1 a2 true true))) = some r := by rw [if_pos rfl] at H; exact H
    clear H
    have H := H1
    clear H1
    replace H := Option.bind_eq_some_iff.mp H
    obtain ⟨⟨t189, t190, t191, t192, t193, t194⟩, A60, H⟩ := H
    replace H : (if t189 = (Go.bits .and .u32 a0 127) then (if t190 = (Go.bits .and .u32 (a0 / 128) 31) then (if t191 = (Go.bits .and .u32 (a0 / 4096) 7) then (if t192 = (Go.bits .and .u32 (a0 / 32768) 31) then (if t193 = (Go.bits .and .u32 (a0 / 1048576) 31) then (if t194 = (a0 / 33554432) then ((enc_Join.f k t189 t190 t191 t192 t193 t194).bind fun t196 => (corrallaw2_EncSays.j0 k a0 a1 a2 true (t196 != a0))) else (corrallaw2_EncSays.j0 k a0 a1 a2 true true)) else (corrallaw2_EncSays.j0 k a0 a1 a2 true true)) else (corrallaw2_EncSays.j0 k a0 a1 a2 true true)) else (corrallaw2_EncSays.j0 k a0 a1 a2 true true)) else (corrallaw2_EncSays.j0 k a0 a1 a2 true true)) else (corrallaw2_EncSays.j0 k a0 a1 a2 true true)) = some r := H
    have A6 := Aside0.mk A60
    clear A60
    have HC7 := Aside0.mk H
    clear H
    go_enter Try.func5, Try.ntmps5
    go_upto_region 5 with (first | ((with_reducible refine gate_callee (f := 13) rfl ?_); refine goesL_ (some 13) rfl rfl Try.func13 (by kernel_rfl) rfl #[] rfl (by (try simp only [List.map_toArray, List.map_cons, List.map_nil]); first | done | rfl | (simp only [List.length_drop, List.length_take]; rfl)) ?_; (with_reducible refine (corrallaw2_first.calls k  true _ A4.out).mono ?_); rintro e w8 ⟨rfl, hb⟩; refine ⟨_, rfl, ?_⟩; have n0_ := Aside0.mk (below_step (by repeat (first | (with_reducible first | exact HB.out | apply below_alloc | apply pw_below_drewN | apply below_drew1) | exact HB.out)) hb); clear HB; have HB := n0_; clear n0_; (try clear hb); (try clear hb2); (try clear hk); (try clear hi)) | ((with_reducible refine gate_callee (f := 16) rfl ?_); refine goesL_ (some 17) rfl rfl Try.func16 (by kernel_rfl) rfl #[.int .u32 a0] rfl (by (try simp only [List.map_toArray, List.map_cons, List.map_nil]); first | done | rfl | (simp only [List.length_drop, List.length_take]; rfl)) ?_; (with_reducible refine (enc_Split.calls a0 t189 t190 t191 t192 t193 t194 _ A6.out).mono ?_); rintro e w9 ⟨rfl, hb⟩; refine ⟨_, rfl, ?_⟩; have n0_ := Aside0.mk (below_step (by repeat (first | (with_reducible first | exact HB.out | apply below_alloc | apply pw_below_drewN | apply below_drew1) | exact HB.out)) hb); clear HB; have HB := n0_; clear n0_; (try clear hb); (try clear hb2); (try clear hk); (try clear hi)) | ((with_reducible refine gate_dst (N := 8) rfl ?_); refine box_event ?hg (N := 8) ?hd (cs := #[.int .u32 0, .int .u32 0, .int .u32 0, .int .u32 0, .int .u32 0, .int .u32 0]) (t := 32) ?hr ?_; (case hd => rfl); (case hg => rfl); (case hr => first | (go_simp; done) | (go_simp; rfl)); intro gb195 hg w10 hbox hb; have n0_ := Aside0.mk (below_step (by repeat (first | (with_reducible first | exact HB.out | apply below_alloc | apply pw_below_drewN | apply below_drew1) | exact HB.out)) hb); have n1_ := Aside0.mk (hbox); have n2_ := Aside0.mk ((by rw [hg]; exact (below_size (by repeat (first | (with_reducible first | exact HB.out | apply below_alloc | apply pw_below_drewN | apply below_drew1) | exact HB.out))) : w.heap.size ≤ gb195)); have n3_ := Aside0.mk ((by rw [hg]; exact (below_size (by repeat (first | (with_reducible first | exact HB.out | apply below_alloc | apply pw_below_drewN | apply below_drew1) | exact HB.out))) : w.heap.size ≤ gb195)); clear HB; have HB := n0_; have BK195 := n1_; have GW195 := n2_; have GE195 := n3_; clear n0_ n1_ n2_ n3_; clear hb hbox hg; have hcz11_0 : w10.cell? ⟨gb195, 0, none⟩ = some (.int .u32 0) := (blk_cell BK195.out 0).trans rfl; have hcz11_1 : w10.cell? ⟨gb195, 1, none⟩ = some (.int .u32 0) := (blk_cell BK195.out 1).trans rfl; have hcz11_2 : w10.cell? ⟨gb195, 2, none⟩ = some (.int .u32 0) := (blk_cell BK195.out 2).trans rfl; have hcz11_3 : w10.cell? ⟨gb195, 3, none⟩ = some (.int .u32 0) := (blk_cell BK195.out 3).trans rfl; have hcz11_4 : w10.cell? ⟨gb195, 4, none⟩ = some (.int .u32 0) := (blk_cell BK195.out 4).trans rfl; have hcz11_5 : w10.cell? ⟨gb195, 5, none⟩ = some (.int .u32 0) := (blk_cell BK195.out 5).trans rfl; have hfz11_0 := blk_frozen BK195.out 0; have hfz11_1 := blk_frozen BK195.out 1; have hfz11_2 := blk_frozen BK195.out 2; have hfz11_3 := blk_frozen BK195.out 3; have hfz11_4 := blk_frozen BK195.out 4; have hfz11_5 := blk_frozen BK195.out 5))
    (try simp only [Act.put, List.setIfInBounds_toArray, List.set_cons_zero, List.set_cons_succ])
    go_cut [67] (fun v67 wc => ∃ (kq : Nat) (x67_6 : Bool), v67 = .bool x67_6 ∧ Aside0 (corrallaw2_EncSays.j0 kq a0 a1 a2 true x67_6 = some r) ∧ Aside0 (kq ≤ k) ∧ Aside0 (wc.heap[gb195]? = some (.cells #[.int .u32 t189, .int .u32 t190, .int .u32 t191, .int .u32 t192, .int .u32 t193, .int .u32 t194] 32 (0, 0))) ∧ Aside0 (Below w.heap.size w wc))
    case first =>
      have H := HC7.out
      clear HC7
      by_cases c12 : t189 = (Go.bits .and .u32 a0 127)
      · rw [if_pos c12] at H
        have c12b0 : (t189 == (Go.bits .and .u32 a0 127)) = true := beq_iff_eq.mpr c12
        have c12b1 : (t189 != (Go.bits .and .u32 a0 127)) = false := bne_eq_false_iff_eq.mpr c12
        clear c12
        (first | rw [c12b0] | (simp only [i64_w, i32_w]; rw [c12b0]) | skip)
        by_cases c13 : t190 = (Go.bits .and .u32 (a0 / 128) 31)
        · rw [if_pos c13] at H
          have c13b0 : (t190 == (Go.bits .and .u32 (a0 / 128) 31)) = true := beq_iff_eq.mpr c13
          have c13b1 : (t190 != (Go.bits .and .u32 (a0 / 128) 31)) = false := bne_eq_false_iff_eq.mpr c13
          clear c13
          by_cases c14 : t191 = (Go.bits .and .u32 (a0 / 4096) 7)
          · rw [if_pos c14] at H
            have c14b0 : (t191 == (Go.bits .and .u32 (a0 / 4096) 7)) = true := beq_iff_eq.mpr c14
            have c14b1 : (t191 != (Go.bits .and .u32 (a0 / 4096) 7)) = false := bne_eq_false_iff_eq.mpr c14
            clear c14
            by_cases c15 : t192 = (Go.bits .and .u32 (a0 / 32768) 31)
            · rw [if_pos c15] at H
              have c15b0 : (t192 == (Go.bits .and .u32 (a0 / 32768) 31)) = true := beq_iff_eq.mpr c15
              have c15b1 : (t192 != (Go.bits .and .u32 (a0 / 32768) 31)) = false := bne_eq_false_iff_eq.mpr c15
              clear c15
              by_cases c16 : t193 = (Go.bits .and .u32 (a0 / 1048576) 31)
              · rw [if_pos c16] at H
                have c16b0 : (t193 == (Go.bits .and .u32 (a0 / 1048576) 31)) = true := beq_iff_eq.mpr c16
                have c16b1 : (t193 != (Go.bits .and .u32 (a0 / 1048576) 31)) = false := bne_eq_false_iff_eq.mpr c16
                clear c16
                by_cases c17 : t194 = (a0 / 33554432)
                · rw [if_pos c17] at H
                  have c17b0 : (t194 == (a0 / 33554432)) = true := beq_iff_eq.mpr c17
                  have c17b1 : (t194 != (a0 / 33554432)) = false := bne_eq_false_iff_eq.mpr c17
                  clear c17
                  replace H := Option.bind_eq_some_iff.mp H
                  obtain ⟨t196, A180, H⟩ := H
                  replace H : (corrallaw2_EncSays.j0 k a0 a1 a2 true (t196 != a0)) = some r := H
                  have A18 := Aside0.mk A180
                  clear A180
                  have H' := Aside0.mk H
                  clear H
                  have hcz19_0 : w10.cell? ⟨gb195, 0, none⟩ = some (.int .u32 0) := (blk_cell BK195.out 0).trans rfl
                  have hcz19_1 : w10.cell? ⟨gb195, 1, none⟩ = some (.int .u32 0) := (blk_cell BK195.out 1).trans rfl
                  have hcz19_2 : w10.cell? ⟨gb195, 2, none⟩ = some (.int .u32 0) := (blk_cell BK195.out 2).trans rfl
                  have hcz19_3 : w10.cell? ⟨gb195, 3, none⟩ = some (.int .u32 0) := (blk_cell BK195.out 3).trans rfl
                  have hcz19_4 : w10.cell? ⟨gb195, 4, none⟩ = some (.int .u32 0) := (blk_cell BK195.out 4).trans rfl
                  have hcz19_5 : w10.cell? ⟨gb195, 5, none⟩ = some (.int .u32 0) := (blk_cell BK195.out 5).trans rfl
                  have hfz19_0 := blk_frozen BK195.out 0
                  have hfz19_1 := blk_frozen BK195.out 1
                  have hfz19_2 := blk_frozen BK195.out 2
                  have hfz19_3 := blk_frozen BK195.out 3
                  have hfz19_4 := blk_frozen BK195.out 4
                  have hfz19_5 := blk_frozen BK195.out 5
                  go_wp2_with (first | (go_at_call 17; (with_reducible refine (enc_Join.calls k t189 t190 t191 t192 t193 t194 t196 _ A18.out).mono ?_); rintro e w20 ⟨rfl, hb⟩; have n0_ := Aside0.mk (blk_below (g := gb195) (o := .cells #[.int .u32 t189, .int .u32 t190, .int .u32 t191, .int .u32 t192, .int .u32 t193, .int .u32 t194] 32 (0, 0)) (by (with_reducible repeat (first | refine blk_drewN ?_ _ | refine blk_drew ?_ | refine blk_alloc ?_ _)); refine blk_put (cs := #[.int .u32 t189, .int .u32 t190, .int .u32 t191, .int .u32 t192, .int .u32 t193, .int .u32 0]) ?_ 5 _ rfl; (with_reducible repeat (first | refine blk_drewN ?_ _ | refine blk_drew ?_ | refine blk_alloc ?_ _)); refine blk_put (cs := #[.int .u32 t189, .int .u32 t190, .int .u32 t191, .int .u32 t192, .int .u32 0, .int .u32 0]) ?_ 4 _ rfl; (with_reducible repeat (first | refine blk_drewN ?_ _ | refine blk_drew ?_ | refine blk_alloc ?_ _)); refine blk_put (cs := #[.int .u32 t189, .int .u32 t190, .int .u32 t191, .int .u32 0, .int .u32 0, .int .u32 0]) ?_ 3 _ rfl; (with_reducible repeat (first | refine blk_drewN ?_ _ | refine blk_drew ?_ | refine blk_alloc ?_ _)); refine blk_put (cs := #[.int .u32 t189, .int .u32 t190, .int .u32 0, .int .u32 0, .int .u32 0, .int .u32 0]) ?_ 2 _ rfl; (with_reducible repeat (first | refine blk_drewN ?_ _ | refine blk_drew ?_ | refine blk_alloc ?_ _)); refine blk_put (cs := #[.int .u32 t189, .int .u32 0, .int .u32 0, .int .u32 0, .int .u32 0, .int .u32 0]) ?_ 1 _ rfl; (with_reducible repeat (first | refine blk_drewN ?_ _ | refine blk_drew ?_ | refine blk_alloc ?_ _)); refine blk_put (cs := #[.int .u32 0, .int .u32 0, .int .u32 0, .int .u32 0, .int .u32 0, .int .u32 0]) ?_ 0 _ rfl; (with_reducible repeat (first | refine blk_drewN ?_ _ | refine blk_drew ?_ | refine blk_alloc ?_ _)); exact BK195.out) hb); have n1_ := Aside0.mk (below_step (by repeat (first | (with_reducible first | exact HB.out | apply below_alloc | apply pw_below_drewN | apply below_drew1 | refine below_set ?_ GE195.out) | exact HB.out)) hb); clear BK195; clear HB; have BK195 := n0_; have HB := n1_; clear n0_ n1_; (try clear hb); (try clear hb2); (try clear hk); (try clear hi)))
                  go_meet
                  case rel => exact ⟨_, ((t196 != a0)), (by first | rfl | (simp; done) | (simp [*]; done)), H', ⟨by first | omega | exact Nat.le_refl _⟩, ⟨by (with_reducible repeat (first | refine blk_drewN ?_ _ | refine blk_drew ?_ | refine blk_alloc ?_ _)); exact BK195.out⟩, ⟨by repeat (first | (with_reducible first | exact HB.out | apply below_alloc | apply pw_below_drewN | apply below_drew1 | refine below_set ?_ GE195.out) | exact HB.out)⟩⟩
                · rw [if_neg c17] at H
                  have c17b0 : (t194 == (a0 / 33554432)) = false := beq_eq_false_iff_ne.mpr c17
                  have c17b1 : (t194 != (a0 / 33554432)) = true := bne_iff_ne.mpr c17
                  have H' := Aside0.mk H
                  clear H
                  have hcz21_0 : w10.cell? ⟨gb195, 0, none⟩ = some (.int .u32 0) := (blk_cell BK195.out 0).trans rfl
                  have hcz21_1 : w10.cell? ⟨gb195, 1, none⟩ = some (.int .u32 0) := (blk_cell BK195.out 1).trans rfl
                  have hcz21_2 : w10.cell? ⟨gb195, 2, none⟩ = some (.int .u32 0) := (blk_cell BK195.out 2).trans rfl
                  have hcz21_3 : w10.cell? ⟨gb195, 3, none⟩ = some (.int .u32 0) := (blk_cell BK195.out 3).trans rfl
                  have hcz21_4 : w10.cell? ⟨gb195, 4, none⟩ = some (.int .u32 0) := (blk_cell BK195.out 4).trans rfl
                  have hcz21_5 : w10.cell? ⟨gb195, 5, none⟩ = some (.int .u32 0) := (blk_cell BK195.out 5).trans rfl
                  have hfz21_0 := blk_frozen BK195.out 0
                  have hfz21_1 := blk_frozen BK195.out 1
                  have hfz21_2 := blk_frozen BK195.out 2
                  have hfz21_3 := blk_frozen BK195.out 3
                  have hfz21_4 := blk_frozen BK195.out 4
                  have hfz21_5 := blk_frozen BK195.out 5
                  go_wp2
                  go_meet
                  case rel => exact ⟨_, (true), (by first | rfl | (simp; done) | (simp [*]; done)), H', ⟨by first | omega | exact Nat.le_refl _⟩, ⟨by (with_reducible repeat (first | refine blk_drewN ?_ _ | refine blk_drew ?_ | refine blk_alloc ?_ _)); refine blk_put (cs := #[.int .u32 t189, .int .u32 t190, .int .u32 t191, .int .u32 t192, .int .u32 t193, .int .u32 0]) ?_ 5 _ rfl; (with_reducible repeat (first | refine blk_drewN ?_ _ | refine blk_drew ?_ | refine blk_alloc ?_ _)); refine blk_put (cs := #[.int .u32 t189, .int .u32 t190, .int .u32 t191, .int .u32 t192, .int .u32 0, .int .u32 0]) ?_ 4 _ rfl; (with_reducible repeat (first | refine blk_drewN ?_ _ | refine blk_drew ?_ | refine blk_alloc ?_ _)); refine blk_put (cs := #[.int .u32 t189, .int .u32 t190, .int .u32 t191, .int .u32 0, .int .u32 0, .int .u32 0]) ?_ 3 _ rfl; (with_reducible repeat (first | refine blk_drewN ?_ _ | refine blk_drew ?_ | refine blk_alloc ?_ _)); refine blk_put (cs := #[.int .u32 t189, .int .u32 t190, .int .u32 0, .int .u32 0, .int .u32 0, .int .u32 0]) ?_ 2 _ rfl; (with_reducible repeat (first | refine blk_drewN ?_ _ | refine blk_drew ?_ | refine blk_alloc ?_ _)); refine blk_put (cs := #[.int .u32 t189, .int .u32 0, .int .u32 0, .int .u32 0, .int .u32 0, .int .u32 0]) ?_ 1 _ rfl; (with_reducible repeat (first | refine blk_drewN ?_ _ | refine blk_drew ?_ | refine blk_alloc ?_ _)); refine blk_put (cs := #[.int .u32 0, .int .u32 0, .int .u32 0, .int .u32 0, .int .u32 0, .int .u32 0]) ?_ 0 _ rfl; (with_reducible repeat (first | refine blk_drewN ?_ _ | refine blk_drew ?_ | refine blk_alloc ?_ _)); exact BK195.out⟩, ⟨by repeat (first | (with_reducible first | exact HB.out | apply below_alloc | apply pw_below_drewN | apply below_drew1 | refine below_set ?_ GE195.out) | exact HB.out)⟩⟩
              · rw [if_neg c16] at H
                have c16b0 : (t193 == (Go.bits .and .u32 (a0 / 1048576) 31)) = false := beq_eq_false_iff_ne.mpr c16
                have c16b1 : (t193 != (Go.bits .and .u32 (a0 / 1048576) 31)) = true := bne_iff_ne.mpr c16
                have H' := Aside0.mk H
                clear H
                have hcz22_0 : w10.cell? ⟨gb195, 0, none⟩ = some (.int .u32 0) := (blk_cell BK195.out 0).trans rfl
                have hcz22_1 : w10.cell? ⟨gb195, 1, none⟩ = some (.int .u32 0) := (blk_cell BK195.out 1).trans rfl
                have hcz22_2 : w10.cell? ⟨gb195, 2, none⟩ = some (.int .u32 0) := (blk_cell BK195.out 2).trans rfl
                have hcz22_3 : w10.cell? ⟨gb195, 3, none⟩ = some (.int .u32 0) := (blk_cell BK195.out 3).trans rfl
                have hcz22_4 : w10.cell? ⟨gb195, 4, none⟩ = some (.int .u32 0) := (blk_cell BK195.out 4).trans rfl
                have hcz22_5 : w10.cell? ⟨gb195, 5, none⟩ = some (.int .u32 0) := (blk_cell BK195.out 5).trans rfl
                have hfz22_0 := blk_frozen BK195.out 0
                have hfz22_1 := blk_frozen BK195.out 1
                have hfz22_2 := blk_frozen BK195.out 2
                have hfz22_3 := blk_frozen BK195.out 3
                have hfz22_4 := blk_frozen BK195.out 4
                have hfz22_5 := blk_frozen BK195.out 5
                go_wp2
                go_meet
                case rel => exact ⟨_, (true), (by first | rfl | (simp; done) | (simp [*]; done)), H', ⟨by first | omega | exact Nat.le_refl _⟩, ⟨by (with_reducible repeat (first | refine blk_drewN ?_ _ | refine blk_drew ?_ | refine blk_alloc ?_ _)); refine blk_put (cs := #[.int .u32 t189, .int .u32 t190, .int .u32 t191, .int .u32 t192, .int .u32 t193, .int .u32 0]) ?_ 5 _ rfl; (with_reducible repeat (first | refine blk_drewN ?_ _ | refine blk_drew ?_ | refine blk_alloc ?_ _)); refine blk_put (cs := #[.int .u32 t189, .int .u32 t190, .int .u32 t191, .int .u32 t192, .int .u32 0, .int .u32 0]) ?_ 4 _ rfl; (with_reducible repeat (first | refine blk_drewN ?_ _ | refine blk_drew ?_ | refine blk_alloc ?_ _)); refine blk_put (cs := #[.int .u32 t189, .int .u32 t190, .int .u32 t191, .int .u32 0, .int .u32 0, .int .u32 0]) ?_ 3 _ rfl; (with_reducible repeat (first | refine blk_drewN ?_ _ | refine blk_drew ?_ | refine blk_alloc ?_ _)); refine blk_put (cs := #[.int .u32 t189, .int .u32 t190, .int .u32 0, .int .u32 0, .int .u32 0, .int .u32 0]) ?_ 2 _ rfl; (with_reducible repeat (first | refine blk_drewN ?_ _ | refine blk_drew ?_ | refine blk_alloc ?_ _)); refine blk_put (cs := #[.int .u32 t189, .int .u32 0, .int .u32 0, .int .u32 0, .int .u32 0, .int .u32 0]) ?_ 1 _ rfl; (with_reducible repeat (first | refine blk_drewN ?_ _ | refine blk_drew ?_ | refine blk_alloc ?_ _)); refine blk_put (cs := #[.int .u32 0, .int .u32 0, .int .u32 0, .int .u32 0, .int .u32 0, .int .u32 0]) ?_ 0 _ rfl; (with_reducible repeat (first | refine blk_drewN ?_ _ | refine blk_drew ?_ | refine blk_alloc ?_ _)); exact BK195.out⟩, ⟨by repeat (first | (with_reducible first | exact HB.out | apply below_alloc | apply pw_below_drewN | apply below_drew1 | refine below_set ?_ GE195.out) | exact HB.out)⟩⟩
            · rw [if_neg c15] at H
              have c15b0 : (t192 == (Go.bits .and .u32 (a0 / 32768) 31)) = false := beq_eq_false_iff_ne.mpr c15
              have c15b1 : (t192 != (Go.bits .and .u32 (a0 / 32768) 31)) = true := bne_iff_ne.mpr c15
              have H' := Aside0.mk H
              clear H
              have hcz23_0 : w10.cell? ⟨gb195, 0, none⟩ = some (.int .u32 0) := (blk_cell BK195.out 0).trans rfl
              have hcz23_1 : w10.cell? ⟨gb195, 1, none⟩ = some (.int .u32 0) := (blk_cell BK195.out 1).trans rfl
              have hcz23_2 : w10.cell? ⟨gb195, 2, none⟩ = some (.int .u32 0) := (blk_cell BK195.out 2).trans rfl
              have hcz23_3 : w10.cell? ⟨gb195, 3, none⟩ = some (.int .u32 0) := (blk_cell BK195.out 3).trans rfl
              have hcz23_4 : w10.cell? ⟨gb195, 4, none⟩ = some (.int .u32 0) := (blk_cell BK195.out 4).trans rfl
              have hcz23_5 : w10.cell? ⟨gb195, 5, none⟩ = some (.int .u32 0) := (blk_cell BK195.out 5).trans rfl
              have hfz23_0 := blk_frozen BK195.out 0
              have hfz23_1 := blk_frozen BK195.out 1
              have hfz23_2 := blk_frozen BK195.out 2
              have hfz23_3 := blk_frozen BK195.out 3
              have hfz23_4 := blk_frozen BK195.out 4
              have hfz23_5 := blk_frozen BK195.out 5
              go_wp2
              go_meet
              case rel => exact ⟨_, (true), (by first | rfl | (simp; done) | (simp [*]; done)), H', ⟨by first | omega | exact Nat.le_refl _⟩, ⟨by (with_reducible repeat (first | refine blk_drewN ?_ _ | refine blk_drew ?_ | refine blk_alloc ?_ _)); refine blk_put (cs := #[.int .u32 t189, .int .u32 t190, .int .u32 t191, .int .u32 t192, .int .u32 t193, .int .u32 0]) ?_ 5 _ rfl; (with_reducible repeat (first | refine blk_drewN ?_ _ | refine blk_drew ?_ | refine blk_alloc ?_ _)); refine blk_put (cs := #[.int .u32 t189, .int .u32 t190, .int .u32 t191, .int .u32 t192, .int .u32 0, .int .u32 0]) ?_ 4 _ rfl; (with_reducible repeat (first | refine blk_drewN ?_ _ | refine blk_drew ?_ | refine blk_alloc ?_ _)); refine blk_put (cs := #[.int .u32 t189, .int .u32 t190, .int .u32 t191, .int .u32 0, .int .u32 0, .int .u32 0]) ?_ 3 _ rfl; (with_reducible repeat (first | refine blk_drewN ?_ _ | refine blk_drew ?_ | refine blk_alloc ?_ _)); refine blk_put (cs := #[.int .u32 t189, .int .u32 t190, .int .u32 0, .int .u32 0, .int .u32 0, .int .u32 0]) ?_ 2 _ rfl; (with_reducible repeat (first | refine blk_drewN ?_ _ | refine blk_drew ?_ | refine blk_alloc ?_ _)); refine blk_put (cs := #[.int .u32 t189, .int .u32 0, .int .u32 0, .int .u32 0, .int .u32 0, .int .u32 0]) ?_ 1 _ rfl; (with_reducible repeat (first | refine blk_drewN ?_ _ | refine blk_drew ?_ | refine blk_alloc ?_ _)); refine blk_put (cs := #[.int .u32 0, .int .u32 0, .int .u32 0, .int .u32 0, .int .u32 0, .int .u32 0]) ?_ 0 _ rfl; (with_reducible repeat (first | refine blk_drewN ?_ _ | refine blk_drew ?_ | refine blk_alloc ?_ _)); exact BK195.out⟩, ⟨by repeat (first | (with_reducible first | exact HB.out | apply below_alloc | apply pw_below_drewN | apply below_drew1 | refine below_set ?_ GE195.out) | exact HB.out)⟩⟩
          · rw [if_neg c14] at H
            have c14b0 : (t191 == (Go.bits .and .u32 (a0 / 4096) 7)) = false := beq_eq_false_iff_ne.mpr c14
            have c14b1 : (t191 != (Go.bits .and .u32 (a0 / 4096) 7)) = true := bne_iff_ne.mpr c14
            have H' := Aside0.mk H
            clear H
            have hcz24_0 : w10.cell? ⟨gb195, 0, none⟩ = some (.int .u32 0) := (blk_cell BK195.out 0).trans rfl
            have hcz24_1 : w10.cell? ⟨gb195, 1, none⟩ = some (.int .u32 0) := (blk_cell BK195.out 1).trans rfl
            have hcz24_2 : w10.cell? ⟨gb195, 2, none⟩ = some (.int .u32 0) := (blk_cell BK195.out 2).trans rfl
            have hcz24_3 : w10.cell? ⟨gb195, 3, none⟩ = some (.int .u32 0) := (blk_cell BK195.out 3).trans rfl
            have hcz24_4 : w10.cell? ⟨gb195, 4, none⟩ = some (.int .u32 0) := (blk_cell BK195.out 4).trans rfl
            have hcz24_5 : w10.cell? ⟨gb195, 5, none⟩ = some (.int .u32 0) := (blk_cell BK195.out 5).trans rfl
            have hfz24_0 := blk_frozen BK195.out 0
            have hfz24_1 := blk_frozen BK195.out 1
            have hfz24_2 := blk_frozen BK195.out 2
            have hfz24_3 := blk_frozen BK195.out 3
            have hfz24_4 := blk_frozen BK195.out 4
            have hfz24_5 := blk_frozen BK195.out 5
            go_wp2
            go_meet
            case rel => exact ⟨_, (true), (by first | rfl | (simp; done) | (simp [*]; done)), H', ⟨by first | omega | exact Nat.le_refl _⟩, ⟨by (with_reducible repeat (first | refine blk_drewN ?_ _ | refine blk_drew ?_ | refine blk_alloc ?_ _)); refine blk_put (cs := #[.int .u32 t189, .int .u32 t190, .int .u32 t191, .int .u32 t192, .int .u32 t193, .int .u32 0]) ?_ 5 _ rfl; (with_reducible repeat (first | refine blk_drewN ?_ _ | refine blk_drew ?_ | refine blk_alloc ?_ _)); refine blk_put (cs := #[.int .u32 t189, .int .u32 t190, .int .u32 t191, .int .u32 t192, .int .u32 0, .int .u32 0]) ?_ 4 _ rfl; (with_reducible repeat (first | refine blk_drewN ?_ _ | refine blk_drew ?_ | refine blk_alloc ?_ _)); refine blk_put (cs := #[.int .u32 t189, .int .u32 t190, .int .u32 t191, .int .u32 0, .int .u32 0, .int .u32 0]) ?_ 3 _ rfl; (with_reducible repeat (first | refine blk_drewN ?_ _ | refine blk_drew ?_ | refine blk_alloc ?_ _)); refine blk_put (cs := #[.int .u32 t189, .int .u32 t190, .int .u32 0, .int .u32 0, .int .u32 0, .int .u32 0]) ?_ 2 _ rfl; (with_reducible repeat (first | refine blk_drewN ?_ _ | refine blk_drew ?_ | refine blk_alloc ?_ _)); refine blk_put (cs := #[.int .u32 t189, .int .u32 0, .int .u32 0, .int .u32 0, .int .u32 0, .int .u32 0]) ?_ 1 _ rfl; (with_reducible repeat (first | refine blk_drewN ?_ _ | refine blk_drew ?_ | refine blk_alloc ?_ _)); refine blk_put (cs := #[.int .u32 0, .int .u32 0, .int .u32 0, .int .u32 0, .int .u32 0, .int .u32 0]) ?_ 0 _ rfl; (with_reducible repeat (first | refine blk_drewN ?_ _ | refine blk_drew ?_ | refine blk_alloc ?_ _)); exact BK195.out⟩, ⟨by repeat (first | (with_reducible first | exact HB.out | apply below_alloc | apply pw_below_drewN | apply below_drew1 | refine below_set ?_ GE195.out) | exact HB.out)⟩⟩
        · rw [if_neg c13] at H
          have c13b0 : (t190 == (Go.bits .and .u32 (a0 / 128) 31)) = false := beq_eq_false_iff_ne.mpr c13
          have c13b1 : (t190 != (Go.bits .and .u32 (a0 / 128) 31)) = true := bne_iff_ne.mpr c13
          have H' := Aside0.mk H
          clear H
          have hcz25_0 : w10.cell? ⟨gb195, 0, none⟩ = some (.int .u32 0) := (blk_cell BK195.out 0).trans rfl
          have hcz25_1 : w10.cell? ⟨gb195, 1, none⟩ = some (.int .u32 0) := (blk_cell BK195.out 1).trans rfl
          have hcz25_2 : w10.cell? ⟨gb195, 2, none⟩ = some (.int .u32 0) := (blk_cell BK195.out 2).trans rfl
          have hcz25_3 : w10.cell? ⟨gb195, 3, none⟩ = some (.int .u32 0) := (blk_cell BK195.out 3).trans rfl
          have hcz25_4 : w10.cell? ⟨gb195, 4, none⟩ = some (.int .u32 0) := (blk_cell BK195.out 4).trans rfl
          have hcz25_5 : w10.cell? ⟨gb195, 5, none⟩ = some (.int .u32 0) := (blk_cell BK195.out 5).trans rfl
          have hfz25_0 := blk_frozen BK195.out 0
          have hfz25_1 := blk_frozen BK195.out 1
          have hfz25_2 := blk_frozen BK195.out 2
          have hfz25_3 := blk_frozen BK195.out 3
          have hfz25_4 := blk_frozen BK195.out 4
          have hfz25_5 := blk_frozen BK195.out 5
          go_wp2
          go_meet
          case rel => exact ⟨_, (true), (by first | rfl | (simp; done) | (simp [*]; done)), H', ⟨by first | omega | exact Nat.le_refl _⟩, ⟨by (with_reducible repeat (first | refine blk_drewN ?_ _ | refine blk_drew ?_ | refine blk_alloc ?_ _)); refine blk_put (cs := #[.int .u32 t189, .int .u32 t190, .int .u32 t191, .int .u32 t192, .int .u32 t193, .int .u32 0]) ?_ 5 _ rfl; (with_reducible repeat (first | refine blk_drewN ?_ _ | refine blk_drew ?_ | refine blk_alloc ?_ _)); refine blk_put (cs := #[.int .u32 t189, .int .u32 t190, .int .u32 t191, .int .u32 t192, .int .u32 0, .int .u32 0]) ?_ 4 _ rfl; (with_reducible repeat (first | refine blk_drewN ?_ _ | refine blk_drew ?_ | refine blk_alloc ?_ _)); refine blk_put (cs := #[.int .u32 t189, .int .u32 t190, .int .u32 t191, .int .u32 0, .int .u32 0, .int .u32 0]) ?_ 3 _ rfl; (with_reducible repeat (first | refine blk_drewN ?_ _ | refine blk_drew ?_ | refine blk_alloc ?_ _)); refine blk_put (cs := #[.int .u32 t189, .int .u32 t190, .int .u32 0, .int .u32 0, .int .u32 0, .int .u32 0]) ?_ 2 _ rfl; (with_reducible repeat (first | refine blk_drewN ?_ _ | refine blk_drew ?_ | refine blk_alloc ?_ _)); refine blk_put (cs := #[.int .u32 t189, .int .u32 0, .int .u32 0, .int .u32 0, .int .u32 0, .int .u32 0]) ?_ 1 _ rfl; (with_reducible repeat (first | refine blk_drewN ?_ _ | refine blk_drew ?_ | refine blk_alloc ?_ _)); refine blk_put (cs := #[.int .u32 0, .int .u32 0, .int .u32 0, .int .u32 0, .int .u32 0, .int .u32 0]) ?_ 0 _ rfl; (with_reducible repeat (first | refine blk_drewN ?_ _ | refine blk_drew ?_ | refine blk_alloc ?_ _)); exact BK195.out⟩, ⟨by repeat (first | (with_reducible first | exact HB.out | apply below_alloc | apply pw_below_drewN | apply below_drew1 | refine below_set ?_ GE195.out) | exact HB.out)⟩⟩
      · rw [if_neg c12] at H
        have c12b0 : (t189 == (Go.bits .and .u32 a0 127)) = false := beq_eq_false_iff_ne.mpr c12
        have c12b1 : (t189 != (Go.bits .and .u32 a0 127)) = true := bne_iff_ne.mpr c12
        (first | rw [c12b0] | (simp only [i64_w, i32_w]; rw [c12b0]) | skip)
        have H' := Aside0.mk H
        clear H
        have hcz26_0 : w10.cell? ⟨gb195, 0, none⟩ = some (.int .u32 0) := (blk_cell BK195.out 0).trans rfl
        have hcz26_1 : w10.cell? ⟨gb195, 1, none⟩ = some (.int .u32 0) := (blk_cell BK195.out 1).trans rfl
        have hcz26_2 : w10.cell? ⟨gb195, 2, none⟩ = some (.int .u32 0) := (blk_cell BK195.out 2).trans rfl
        have hcz26_3 : w10.cell? ⟨gb195, 3, none⟩ = some (.int .u32 0) := (blk_cell BK195.out 3).trans rfl
        have hcz26_4 : w10.cell? ⟨gb195, 4, none⟩ = some (.int .u32 0) := (blk_cell BK195.out 4).trans rfl
        have hcz26_5 : w10.cell? ⟨gb195, 5, none⟩ = some (.int .u32 0) := (blk_cell BK195.out 5).trans rfl
        have hfz26_0 := blk_frozen BK195.out 0
        have hfz26_1 := blk_frozen BK195.out 1
        have hfz26_2 := blk_frozen BK195.out 2
        have hfz26_3 := blk_frozen BK195.out 3
        have hfz26_4 := blk_frozen BK195.out 4
        have hfz26_5 := blk_frozen BK195.out 5
        go_wp2
        go_meet
        case rel => exact ⟨_, (true), (by first | rfl | (simp; done) | (simp [*]; done)), H', ⟨by first | omega | exact Nat.le_refl _⟩, ⟨by (with_reducible repeat (first | refine blk_drewN ?_ _ | refine blk_drew ?_ | refine blk_alloc ?_ _)); refine blk_put (cs := #[.int .u32 t189, .int .u32 t190, .int .u32 t191, .int .u32 t192, .int .u32 t193, .int .u32 0]) ?_ 5 _ rfl; (with_reducible repeat (first | refine blk_drewN ?_ _ | refine blk_drew ?_ | refine blk_alloc ?_ _)); refine blk_put (cs := #[.int .u32 t189, .int .u32 t190, .int .u32 t191, .int .u32 t192, .int .u32 0, .int .u32 0]) ?_ 4 _ rfl; (with_reducible repeat (first | refine blk_drewN ?_ _ | refine blk_drew ?_ | refine blk_alloc ?_ _)); refine blk_put (cs := #[.int .u32 t189, .int .u32 t190, .int .u32 t191, .int .u32 0, .int .u32 0, .int .u32 0]) ?_ 3 _ rfl; (with_reducible repeat (first | refine blk_drewN ?_ _ | refine blk_drew ?_ | refine blk_alloc ?_ _)); refine blk_put (cs := #[.int .u32 t189, .int .u32 t190, .int .u32 0, .int .u32 0, .int .u32 0, .int .u32 0]) ?_ 2 _ rfl; (with_reducible repeat (first | refine blk_drewN ?_ _ | refine blk_drew ?_ | refine blk_alloc ?_ _)); refine blk_put (cs := #[.int .u32 t189, .int .u32 0, .int .u32 0, .int .u32 0, .int .u32 0, .int .u32 0]) ?_ 1 _ rfl; (with_reducible repeat (first | refine blk_drewN ?_ _ | refine blk_drew ?_ | refine blk_alloc ?_ _)); refine blk_put (cs := #[.int .u32 0, .int .u32 0, .int .u32 0, .int .u32 0, .int .u32 0, .int .u32 0]) ?_ 0 _ rfl; (with_reducible repeat (first | refine blk_drewN ?_ _ | refine blk_drew ?_ | refine blk_alloc ?_ _)); exact BK195.out⟩, ⟨by repeat (first | (with_reducible first | exact HB.out | apply below_alloc | apply pw_below_drewN | apply below_drew1 | refine below_set ?_ GE195.out) | exact HB.out)⟩⟩
    case rest =>
      clear HC7
      try clear c1
      try clear p2
      try clear c5
      try clear c12
      try clear c12b0
      try clear c12b1
      try clear c13
      try clear c13b0
      try clear c13b1
      try clear c14
      try clear c14b0
      try clear c14b1
      try clear c15
      try clear c15b0
      try clear c15b1
      try clear c16
      try clear c16b0
      try clear c16b1
      try clear c17
      try clear c17b0
      try clear c17b1
      try clear hcz11_0
      try clear hcz11_1
      try clear hcz11_2
      try clear hcz11_3
      try clear hcz11_4
      try clear hcz11_5
      try clear hcz19_0
      try clear hcz19_1
      try clear hcz19_2
      try clear hcz19_3
      try clear hcz19_4
      try clear hcz19_5
      try clear hcz21_0
      try clear hcz21_1
      try clear hcz21_2
      try clear hcz21_3
      try clear hcz21_4
      try clear hcz21_5
      try clear hcz22_0
      try clear hcz22_1
      try clear hcz22_2
      try clear hcz22_3
      try clear hcz22_4
      try clear hcz22_5
      try clear hcz23_0
      try clear hcz23_1
      try clear hcz23_2
      try clear hcz23_3
      try clear hcz23_4
      try clear hcz23_5
      try clear hcz24_0
      try clear hcz24_1
      try clear hcz24_2
      try clear hcz24_3
      try clear hcz24_4
      try clear hcz24_5
      try clear hcz25_0
      try clear hcz25_1
      try clear hcz25_2
      try clear hcz25_3
      try clear hcz25_4
      try clear hcz25_5
      try clear hcz26_0
      try clear hcz26_1
      try clear hcz26_2
      try clear hcz26_3
      try clear hcz26_4
      try clear hcz26_5
      try clear hfz11_0
      try clear hfz11_1
      try clear hfz11_2
      try clear hfz11_3
      try clear hfz11_4
      try clear hfz11_5
      try clear hfz19_0
      try clear hfz19_1
      try clear hfz19_2
      try clear hfz19_3
      try clear hfz19_4
      try clear hfz19_5
      try clear hfz21_0
      try clear hfz21_1
      try clear hfz21_2
      try clear hfz21_3
      try clear hfz21_4
      try clear hfz21_5
      try clear hfz22_0
      try clear hfz22_1
      try clear hfz22_2
      try clear hfz22_3
      try clear hfz22_4
      try clear hfz22_5
      try clear hfz23_0
      try clear hfz23_1
      try clear hfz23_2
      try clear hfz23_3
      try clear hfz23_4
      try clear hfz23_5
      try clear hfz24_0
      try clear hfz24_1
      try clear hfz24_2
      try clear hfz24_3
      try clear hfz24_4
      try clear hfz24_5
      try clear hfz25_0
      try clear hfz25_1
      try clear hfz25_2
      try clear hfz25_3
      try clear hfz25_4
      try clear hfz25_5
      try clear hfz26_0
      try clear hfz26_1
      try clear hfz26_2
      try clear hfz26_3
      try clear hfz26_4
      try clear hfz26_5
      obtain ⟨kq, x67_6, rfl, HA, HJ6, BK195, HB⟩ := hcut
      cases kq with
      | zero => exact absurd HA.out (by simp [corrallaw2_EncSays.j0])
      | succ kj6 =>
        have H := HA.out
        clear HA
        simp only [corrallaw2_EncSays.j0] at H
        by_cases c27 : x67_6 = true
        · subst c27
          have H1 : (some false) = some r := by rw [if_pos rfl] at H; exact H
          clear H
          have H := H1
          clear H1
          exact absurd (Option.some.inj H) (by rw [HRT.out]; decide)
        · replace c27 := Bool.eq_false_iff.mpr c27
          subst c27
          have H1 : ((enc_LayAll.f kj6 a2 a1).bind fun bt197 => ((corralref1_Lay.f kj6 a2 a1).bind fun bt199 => (if true = true then ((enc_Imm.f kj6 a2 a0).bind fun t201 => ((corralref1_Imm.f kj6 a2 a0).bind fun t202 => (if t201 = t202 then (if (bt197.2 == bt199.2) = true then (some (bt197.1 == bt199.1)) else (some false)) else (some false)))) else (some false)))) = some r := by rw [if_neg (show ¬ (false = true) by decide)] at H; exact H
          clear H
          have H := H1
          clear H1
          replace H := Option.bind_eq_some_iff.mp H
          obtain ⟨⟨t197, t198⟩, A280, H⟩ := H
          replace H : ((corralref1_Lay.f kj6 a2 a1).bind fun bt199 => (if true = true then ((enc_Imm.f kj6 a2 a0).bind fun t201 => ((corralref1_Imm.f kj6 a2 a0).bind fun t202 => (if t201 = t202 then (if (t198 == bt199.2) = true then (some (t197 == bt199.1)) else (some false)) else (some false)))) else (some false))) = some r := H
          have A28 := Aside0.mk A280
          clear A280
          replace H := Option.bind_eq_some_iff.mp H
          obtain ⟨⟨t199, t200⟩, A290, H⟩ := H
          replace H : (if true = true then ((enc_Imm.f kj6 a2 a0).bind fun t201 => ((corralref1_Imm.f kj6 a2 a0).bind fun t202 => (if t201 = t202 then (if (t198 == t200) = true then (some (t197 == t199)) else (some false)) else (some false)))) else (some false)) = some r := H
          have A29 := Aside0.mk A290
          clear A290
          replace H : ((enc_Imm.f kj6 a2 a0).bind fun t201 => ((corralref1_Imm.f kj6 a2 a0).bind fun t202 => (if t201 = t202 then (if (t198 == t200) = true then (some (t197 == t199)) else (some false)) else (some false)))) = some r := by first | (rw [if_pos rfl] at H; exact H) | (rw [if_pos trivial] at H; exact H)
          replace H := Option.bind_eq_some_iff.mp H
          obtain ⟨t201, A300, H⟩ := H
          replace H : ((corralref1_Imm.f kj6 a2 a0).bind fun t202 => (if t201 = t202 then (if (t198 == t200) = true then (some (t197 == t199)) else (some false)) else (some false))) = some r := H
          have A30 := Aside0.mk A300
          clear A300
          replace H := Option.bind_eq_some_iff.mp H
          obtain ⟨t202, A310, H⟩ := H
          replace H : (if t201 = t202 then (if (t198 == t200) = true then (some (t197 == t199)) else (some false)) else (some false)) = some r := H
          have A31 := Aside0.mk A310
          clear A310
          by_cases c32 : t201 = t202
          · rw [if_pos c32] at H
            have c32b0 : (t201 == t202) = true := beq_iff_eq.mpr c32
            have c32b1 : (t201 != t202) = false := bne_eq_false_iff_eq.mpr c32
            clear c32
            by_cases c33 : (t198 == t200) = true
            · rw [if_pos c33] at H
              have c33b0 : (t198 == t200) = true := c33
              (try (have c33b1 : decide (t198 = t200) = true := by simpa using c33))
              (try (have c33b2 : (t198 == t200) = true := by simpa using c33))
              clear c33
              clear HRT
              obtain rfl := Option.some.inj H
              go_wp2_with (first | ((with_reducible refine gate_callee (f := 15) rfl ?_); refine goesL_ (some 71) rfl rfl Try.func15 (by kernel_rfl) rfl #[.int .u8 a2, .int .u32 a1] rfl (by (try simp only [List.map_toArray, List.map_cons, List.map_nil]); first | done | rfl | (simp only [List.length_drop, List.length_take]; rfl)) ?_; (with_reducible refine (enc_LayAll.calls kj6 a2 a1 t197 t198 _ A28.out).mono ?_); rintro e w34 ⟨rfl, hb⟩; refine ⟨_, rfl, ?_⟩; have n0_ := Aside0.mk (blk_below (g := gb195) (o := .cells #[.int .u32 t189, .int .u32 t190, .int .u32 t191, .int .u32 t192, .int .u32 t193, .int .u32 t194] 32 (0, 0)) (by (with_reducible repeat (first | refine blk_drewN ?_ _ | refine blk_drew ?_ | refine blk_alloc ?_ _)); exact BK195.out) hb); have n1_ := Aside0.mk (below_step (by repeat (first | (with_reducible first | exact HB.out | apply below_alloc | apply pw_below_drewN | apply below_drew1 | refine below_set ?_ GE195.out) | exact HB.out)) hb); clear BK195; clear HB; have BK195 := n0_; have HB := n1_; clear n0_ n1_; (try clear hb); (try clear hb2); (try clear hk); (try clear hi)) | ((with_reducible refine gate_callee (f := 18) rfl ?_); refine goesL_ (some 77) rfl rfl Try.func18 (by kernel_rfl) rfl #[.int .u8 a2, .int .u32 a1] rfl (by (try simp only [List.map_toArray, List.map_cons, List.map_nil]); first | done | rfl | (simp only [List.length_drop, List.length_take]; rfl)) ?_; (with_reducible refine (corralref1_Lay.calls kj6 a2 a1 t199 t200 _ A29.out).mono ?_); rintro e w' ⟨rfl, ⟨nd, rfl⟩⟩; refine ⟨_, rfl, ?_⟩) | (go_at_call 14; (with_reducible refine (enc_Imm.calls kj6 a2 a0 t201 _ A30.out).mono ?_); rintro e w35 ⟨rfl, hb⟩; have n0_ := Aside0.mk (blk_below (g := gb195) (o := .cells #[.int .u32 t189, .int .u32 t190, .int .u32 t191, .int .u32 t192, .int .u32 t193, .int .u32 t194] 32 (0, 0)) (by (with_reducible repeat (first | refine blk_drewN ?_ _ | refine blk_drew ?_ | refine blk_alloc ?_ _)); exact BK195.out) hb); have n1_ := Aside0.mk (below_step (by repeat (first | (with_reducible first | exact HB.out | apply below_alloc | apply pw_below_drewN | apply below_drew1 | refine below_set ?_ GE195.out) | exact HB.out)) hb); clear BK195; clear HB; have BK195 := n0_; have HB := n1_; clear n0_ n1_; (try clear hb); (try clear hb2); (try clear hk); (try clear hi)) | (go_at_call 19; (with_reducible refine (corralref1_Imm.calls kj6 a2 a0 t202 _ A31.out).mono ?_); rintro e w' ⟨rfl, ⟨nd, rfl⟩⟩))
              go_ret
              exact ⟨by first | rfl | (simp [errW_none, errW_some] <;> rfl) | (simp [*, errW_none, errW_some] <;> rfl), by repeat (first | (with_reducible first | exact HB.out | apply below_alloc | apply pw_below_drewN | apply below_drew1 | refine below_set ?_ GE195.out) | exact HB.out)⟩
            · rw [if_neg c33] at H
              have c33b0 : (t198 == t200) = false := by simpa using c33
              (try (have c33b1 : decide (t198 = t200) = false := by simpa using c33))
              (try (have c33b2 : (t198 == t200) = false := by simpa using c33))
              (try (have c33b3 : ¬ (t198 = t200) := by simpa using c33))
              clear c33
              exact absurd (Option.some.inj H) (by rw [HRT.out]; decide)
          · rw [if_neg c32] at H
            have c32b0 : (t201 == t202) = false := beq_eq_false_iff_ne.mpr c32
            have c32b1 : (t201 != t202) = true := bne_iff_ne.mpr c32
            exact absurd (Option.some.inj H) (by rw [HRT.out]; decide)
  · replace c5 := Bool.eq_false_iff.mpr c5
    subst c5
    have H1 : (some false) = some r := by rw [if_neg (show ¬ (false = true) by decide)] at H; exact H
    clear H
    have H := H1
    clear H1
    exact absurd (Option.some.inj H) (by rw [HRT.out]; decide)

/-- THE ONE PURE STATEMENT of corrallaw2_EncSays: yours. -/
def corrallaw2_EncSays.Pure : Prop := ∀ (a0 : Int) (a1 : Int) (a2 : Int), (Lit.int .u32 a0).wf = true → (Lit.int .u32 a1).wf = true → (Lit.int .u8 a2).wf = true → ∃ k, corrallaw2_EncSays.f k a0 a1 a2 = some true
theorem corrallaw2_EncSays.walk (P : corrallaw2_EncSays.Pure) (a0 : Int) (a1 : Int) (a2 : Int) (w : World) (w0 : (Lit.int .u32 a0).wf = true) (w1 : (Lit.int .u32 a1).wf = true) (w2 : (Lit.int .u8 a2).wf = true) :
    Calls Try.prog 5 #[.int .u32 a0, .int .u32 a1, .int .u8 a2] w fun e w' => e = .returned (.bool true) ∧ Below w.heap.size w w' := by
  obtain ⟨k, h⟩ := P a0 a1 a2 w0 w1 w2
  refine (corrallaw2_EncSays.calls k a0 a1 a2 true w h rfl).mono ?_
  rintro e w' ⟨rfl, hd⟩
  exact ⟨rfl, hd⟩

end Go.Proofs.Ytcaohimipkoapaa.QEncSays
