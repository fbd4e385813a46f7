-- Laid by a program of this session (wip/tpl/mine.sh), out of the program's form in Lean: Lean checks it.
import Derived.Test.YtecmjcfhbedelaaQWalkEndsx0
import Derived.Test.YtecmjcfhbedelaaQWalkEndsx1
namespace Go.Proofs.Ytecmjcfhbedelaa.QWalkEnds
open Go.RowKit Go.Proofs.YtecmjcfhbedelaaW.PrintWords Go.Proofs.YtecmjcfhbedelaaW.PrintLast Go.Proofs.YtecmjcfhbedelaaW.PrintMore
attribute [local go_sem] max2_int min2_int max_two min_two max_three min_three max_four min_four   -- for this text's walks alone
set_option linter.unusedVariables false
set_option linter.unusedSimpArgs false

/-! ### walk_leaf: function 55 -/
def walk_leaf.j0 : Nat → Int → Int → Int → Int → Int → Int → Bool → Option (Int × Int × Int × Int × Int)
  | 0, _, _, _, _, _, _, _ => none
  | k + 1, x0, x1, x3, x4, x13, x14, x35 => if x35 = true then ((walk_fault.f x4 true).bind fun bt117 => (some (bt117.1, bt117.2.1, bt117.2.2.1, bt117.2.2.2.1, bt117.2.2.2.2))) else ((pte_Needs.f x0 x4).bind fun t122 => (if t122 = x0 then ((word_Bits.f x3 0 x13).bind fun t123 => (if ((Go.bits .or .u64 (IntKind.u64.wrap ((IntKind.u64.wrap (x14)) * 4096)) (IntKind.u64.wrap (t123))) / 4294967296) = 0 then (some (1, (Go.bits .or .u64 (IntKind.u64.wrap ((IntKind.u64.wrap (x14)) * 4096)) (IntKind.u64.wrap (t123))) % 4294967296, 0, 0, 0)) else ((walk_fault.f x4 false).bind fun bt124 => (some (bt124.1, bt124.2.1, bt124.2.2.1, bt124.2.2.2.1, bt124.2.2.2.2))))) else (some (4, 0, x1, t122, 0))))
def walk_leaf.f (k : Nat) (a0 : Int) (a1 : Int) (a2 : Int) (a3 : Int) (a4 : Int) (a5 : Int) : Option (Int × Int × Int × Int × Int) := (pte_Page.f a0).bind fun t114 => ((pte_May.f a0 a4 a2).bind fun t115 => (if t115 = true then (if a5 > 0 then ((word_Bits.f t114 0 10).bind fun t116 => (walk_leaf.j0 k a0 a1 a3 a4 (wrap64 (12 + (wrap64 (10 * a5)))) t114 (t116 != 0))) else (walk_leaf.j0 k a0 a1 a3 a4 (wrap64 (12 + (wrap64 (10 * a5)))) t114 false)) else (walk_leaf.j0 k a0 a1 a3 a4 (wrap64 (12 + (wrap64 (10 * a5)))) t114 true)))
theorem walk_leaf.mono_l : ∀ k, (∀ y0 y1 y2 y3 y4 y5 y6, LeO (walk_leaf.j0 k y0 y1 y2 y3 y4 y5 y6) (walk_leaf.j0 (k + 1) y0 y1 y2 y3 y4 y5 y6))
  | 0 => fun _ _ _ _ _ _ _ r h => by simp [walk_leaf.j0] at h
  | k + 1 => by
    have ih0 := walk_leaf.mono_l k
    · intro y0 y1 y2 y3 y4 y5 y6
      unfold walk_leaf.j0
      repeat' first
      | (with_reducible exact ih0 _ _ _ _ _ _ _)
      | (with_reducible exact LeO.refl _)
      | (with_reducible exact LeO.none _)
      | (with_reducible refine LeO.ite ?_ ?_)
      | (with_reducible refine LeO.bind ?_ (fun _ => ?_))
      | exact ih0 _ _ _ _ _ _ _
      | exact LeO.none _
      | refine LeO.ite ?_ ?_
      | refine LeO.bind ?_ (fun _ => ?_)
theorem walk_leaf.mono : ∀ a0 a1 a2 a3 a4 a5 k, LeO (walk_leaf.f k a0 a1 a2 a3 a4 a5) (walk_leaf.f (k + 1) a0 a1 a2 a3 a4 a5) := by
  intro a0 a1 a2 a3 a4 a5 k
  have ih0 := walk_leaf.mono_l k
  unfold walk_leaf.f
  repeat' first
      | (with_reducible exact ih0 _ _ _ _ _ _ _)
      | (with_reducible exact LeO.refl _)
      | (with_reducible exact LeO.none _)
      | (with_reducible refine LeO.ite ?_ ?_)
      | (with_reducible refine LeO.bind ?_ (fun _ => ?_))
      | exact ih0 _ _ _ _ _ _ _
      | exact LeO.none _
      | refine LeO.ite ?_ ?_
      | refine LeO.bind ?_ (fun _ => ?_)
set_option maxHeartbeats 8000000 in
set_option maxRecDepth 100000 in
theorem walk_leaf.calls (k : Nat) (a0 : Int) (a1 : Int) (a2 : Int) (a3 : Int) (a4 : Int) (a5 : Int) (r1 : Int) (r2 : Int) (r3 : Int) (r4 : Int) (r5 : Int) (w : World) (h : walk_leaf.f k a0 a1 a2 a3 a4 a5 = some (r1, r2, r3, r4, r5)) :
    Calls Try.prog 55 #[.int .u32 a0, .int .u32 a1, .int .i64 a2, .int .u32 a3, .int .i64 a4, .int .i64 a5] w fun e w' => e = .returned (.agg #[.int .i64 r1, .int .u32 r2, .int .u32 r3, .int .u32 r4, .int .u32 r5]) ∧ Below w.heap.size w w' := by
  have hu48 := Try.underlying48
  have HB := Aside0.mk (Below.refl w.heap.size w)
  have H : ((pte_Page.f a0).bind fun t114 => ((pte_May.f a0 a4 a2).bind fun t115 => (if t115 = true then (if a5 > 0 then ((word_Bits.f t114 0 10).bind fun t116 => (walk_leaf.j0 k a0 a1 a3 a4 (wrap64 (12 + (wrap64 (10 * a5)))) t114 (t116 != 0))) else (walk_leaf.j0 k a0 a1 a3 a4 (wrap64 (12 + (wrap64 (10 * a5)))) t114 false)) else (walk_leaf.j0 k a0 a1 a3 a4 (wrap64 (12 + (wrap64 (10 * a5)))) t114 true)))) = some (r1, r2, r3, r4, r5) := h
  clear h
  replace H := Option.bind_eq_some_iff.mp H
  obtain ⟨t114, A70, H⟩ := H
  replace H : ((pte_May.f a0 a4 a2).bind fun t115 => (if t115 = true then (if a5 > 0 then ((word_Bits.f t114 0 10).bind fun t116 => (walk_leaf.j0 k a0 a1 a3 a4 (wrap64 (12 + (wrap64 (10 * a5)))) t114 (t116 != 0))) else (walk_leaf.j0 k a0 a1 a3 a4 (wrap64 (12 + (wrap64 (10 * a5)))) t114 false)) else (walk_leaf.j0 k a0 a1 a3 a4 (wrap64 (12 + (wrap64 (10 * a5)))) t114 true))) = some (r1, r2, r3, r4, r5) := H
  have A7 := Aside0.mk A70
  clear A70
  have HC8 := Aside0.mk H
  clear H
  go_enter Try.func55, Try.ntmps55
  go_upto_region 3 with (first | ((with_reducible refine gate_dst (N := 12) rfl ?_); refine box_event ?hg (N := 12) ?hd (cs := #[.int .i64 0, .int .u32 0, .int .u32 0, .int .u32 0, .int .u32 0]) (t := 48) ?hr ?_; (case hd => rfl); (case hg => rfl); (case hr => first | (go_simp; done) | (go_simp; rfl)); intro gb113 hg w9 hbox hb; have n0_ := Aside0.mk (below_step (by repeat (first | (with_reducible first | exact HB.out | apply below_alloc | apply pw_below_drewN | apply below_drew1) | exact HB.out)) hb); have n1_ := Aside0.mk (hbox); have n2_ := Aside0.mk ((by rw [hg]; exact (below_size (by repeat (first | (with_reducible first | exact HB.out | apply below_alloc | apply pw_below_drewN | apply below_drew1) | exact HB.out))) : w.heap.size ≤ gb113)); have n3_ := Aside0.mk ((by rw [hg]; exact (below_size (by repeat (first | (with_reducible first | exact HB.out | apply below_alloc | apply pw_below_drewN | apply below_drew1) | exact HB.out))) : w.heap.size ≤ gb113)); clear HB; have HB := n0_; have BK113 := n1_; have GW113 := n2_; have GE113 := n3_; clear n0_ n1_ n2_ n3_; clear hb hbox hg) | ((with_reducible refine gate_callee (f := 54) rfl ?_); refine goesL_ (some 21) rfl rfl Try.func54 (by kernel_rfl) rfl #[.int .u32 a0] rfl (by (try simp only [List.map_toArray, List.map_cons, List.map_nil]); first | done | rfl | (simp only [List.length_drop, List.length_take]; rfl)) ?_; (with_reducible refine (pte_Page.calls a0 t114 _ A7.out).mono ?_); rintro e w' ⟨rfl, ⟨nd, rfl⟩⟩; refine ⟨_, rfl, ?_⟩))
  (try simp only [Act.put, List.setIfInBounds_toArray, List.set_cons_zero, List.set_cons_succ])
  go_cut [35] (fun v35 wc => ∃ (kq : Nat) (x35_7 : Bool), v35 = .bool x35_7 ∧ Aside0 (walk_leaf.j0 kq a0 a1 a3 a4 (wrap64 (12 + (wrap64 (10 * a5)))) t114 x35_7 = some (r1, r2, r3, r4, r5)) ∧ Aside0 (kq ≤ k) ∧ Aside0 (wc.heap[gb113]? = some (.cells #[.int .i64 0, .int .u32 0, .int .u32 0, .int .u32 0, .int .u32 0] 48 (0, 0))) ∧ Aside0 (Below w.heap.size w wc))
  case first =>
    have H := HC8.out
    clear HC8
    replace H := Option.bind_eq_some_iff.mp H
    obtain ⟨t115, A100, H⟩ := H
    replace H : (if t115 = true then (if a5 > 0 then ((word_Bits.f t114 0 10).bind fun t116 => (walk_leaf.j0 k a0 a1 a3 a4 (wrap64 (12 + (wrap64 (10 * a5)))) t114 (t116 != 0))) else (walk_leaf.j0 k a0 a1 a3 a4 (wrap64 (12 + (wrap64 (10 * a5)))) t114 false)) else (walk_leaf.j0 k a0 a1 a3 a4 (wrap64 (12 + (wrap64 (10 * a5)))) t114 true)) = some (r1, r2, r3, r4, r5) := H
    have A10 := Aside0.mk A100
    clear A100
    by_cases c11 : t115 = true
    · subst c11
      have H1 : (if a5 > 0 then ((word_Bits.f t114 0 10).bind fun t116 => (walk_leaf.j0 k a0 a1 a3 a4 (wrap64 (12 + (wrap64 (10 * a5)))) t114 (t116 != 0))) else (walk_leaf.j0 k a0 a1 a3 a4 (wrap64 (12 + (wrap64 (10 * a5)))) t114 false)) = some (r1, r2, r3, r4, r5) := by rw [if_pos rfl] at H; exact H
      clear H
      have H := H1
      clear H1
      by_cases c12 : a5 > 0
      · rw [if_pos c12] at H
        have c12b0 : decide (0 < a5) = true := decide_eq_true c12
        clear c12
        (first | rw [c12b0] | (simp only [i64_w, i32_w]; rw [c12b0]) | skip)
        replace H := Option.bind_eq_some_iff.mp H
        obtain ⟨t116, A130, H⟩ := H
        replace H : (walk_leaf.j0 k a0 a1 a3 a4 (wrap64 (12 + (wrap64 (10 * a5)))) t114 (t116 != 0)) = some (r1, r2, r3, r4, r5) := H
        have A13 := Aside0.mk A130
        clear A130
        have H' := Aside0.mk H
        clear H
        go_wp2_with (first | ((with_reducible refine gate_callee (f := 24) rfl ?_); refine goesL_ (some 25) rfl rfl Try.func24 (by kernel_rfl) rfl #[.int .u32 a0, .int .i64 a4, .int .i64 a2] rfl (by (try simp only [List.map_toArray, List.map_cons, List.map_nil]); first | done | rfl | (simp only [List.length_drop, List.length_take]; rfl)) ?_; (with_reducible refine (pte_May.calls a0 a4 a2 true _ A10.out).mono ?_); rintro e w' ⟨rfl, ⟨nd, rfl⟩⟩; refine ⟨_, rfl, ?_⟩) | (go_at_call 44; (with_reducible refine (word_Bits.calls t114 0 10 t116 _ A13.out).mono ?_); rintro e w14 ⟨rfl, hb⟩; have n0_ := Aside0.mk (blk_below (g := gb113) (o := .cells #[.int .i64 0, .int .u32 0, .int .u32 0, .int .u32 0, .int .u32 0] 48 (0, 0)) (by (with_reducible repeat (first | refine blk_drewN ?_ _ | refine blk_drew ?_ | refine blk_alloc ?_ _)); exact BK113.out) hb); have n1_ := Aside0.mk (below_step (by repeat (first | (with_reducible first | exact HB.out | apply below_alloc | apply pw_below_drewN | apply below_drew1 | refine below_set ?_ GE113.out) | exact HB.out)) hb); clear BK113; clear HB; have BK113 := n0_; have HB := n1_; clear n0_ n1_; (try clear hb); (try clear hb2); (try clear hk); (try clear hi)))
        go_meet
        case rel => exact ⟨_, ((t116 != 0)), (by first | rfl | (simp; done) | (simp [*]; done)), H', ⟨by first | omega | exact Nat.le_refl _⟩, ⟨by (with_reducible repeat (first | refine blk_drewN ?_ _ | refine blk_drew ?_ | refine blk_alloc ?_ _)); exact BK113.out⟩, ⟨by repeat (first | (with_reducible first | exact HB.out | apply below_alloc | apply pw_below_drewN | apply below_drew1 | refine below_set ?_ GE113.out) | exact HB.out)⟩⟩
      · rw [if_neg c12] at H
        have c12b0 : decide (0 < a5) = false := decide_eq_false c12
        clear c12
        (first | rw [c12b0] | (simp only [i64_w, i32_w]; rw [c12b0]) | skip)
        have H' := Aside0.mk H
        clear H
        go_wp2_with (first | ((with_reducible refine gate_callee (f := 24) rfl ?_); refine goesL_ (some 25) rfl rfl Try.func24 (by kernel_rfl) rfl #[.int .u32 a0, .int .i64 a4, .int .i64 a2] rfl (by (try simp only [List.map_toArray, List.map_cons, List.map_nil]); first | done | rfl | (simp only [List.length_drop, List.length_take]; rfl)) ?_; (with_reducible refine (pte_May.calls a0 a4 a2 true _ A10.out).mono ?_); rintro e w' ⟨rfl, ⟨nd, rfl⟩⟩; refine ⟨_, rfl, ?_⟩))
        go_meet
        case rel => exact ⟨_, (false), (by first | rfl | (simp; done) | (simp [*]; done)), H', ⟨by first | omega | exact Nat.le_refl _⟩, ⟨by (with_reducible repeat (first | refine blk_drewN ?_ _ | refine blk_drew ?_ | refine blk_alloc ?_ _)); exact BK113.out⟩, ⟨by repeat (first | (with_reducible first | exact HB.out | apply below_alloc | apply pw_below_drewN | apply below_drew1 | refine below_set ?_ GE113.out) | exact HB.out)⟩⟩
    · replace c11 := Bool.eq_false_iff.mpr c11
      subst c11
      have H1 : (walk_leaf.j0 k a0 a1 a3 a4 (wrap64 (12 + (wrap64 (10 * a5)))) t114 true) = some (r1, r2, r3, r4, r5) := by rw [if_neg (show ¬ (false = true) by decide)] at H; exact H
      clear H
      have H := H1
      clear H1
      have H' := Aside0.mk H
      clear H
      go_wp2_with (first | ((with_reducible refine gate_callee (f := 24) rfl ?_); refine goesL_ (some 25) rfl rfl Try.func24 (by kernel_rfl) rfl #[.int .u32 a0, .int .i64 a4, .int .i64 a2] rfl (by (try simp only [List.map_toArray, List.map_cons, List.map_nil]); first | done | rfl | (simp only [List.length_drop, List.length_take]; rfl)) ?_; (with_reducible refine (pte_May.calls a0 a4 a2 false _ A10.out).mono ?_); rintro e w' ⟨rfl, ⟨nd, rfl⟩⟩; refine ⟨_, rfl, ?_⟩))
      go_meet
      case rel => exact ⟨_, (true), (by first | rfl | (simp; done) | (simp [*]; done)), H', ⟨by first | omega | exact Nat.le_refl _⟩, ⟨by (with_reducible repeat (first | refine blk_drewN ?_ _ | refine blk_drew ?_ | refine blk_alloc ?_ _)); exact BK113.out⟩, ⟨by repeat (first | (with_reducible first | exact HB.out | apply below_alloc | apply pw_below_drewN | apply below_drew1 | refine below_set ?_ GE113.out) | exact HB.out)⟩⟩
  case rest =>
    clear HC8
    try clear c1
    try clear c2
    try clear p2
    try clear c5
    try clear p6
    try clear c11
    try clear c12
    try clear c12b0
    obtain ⟨kq, x35_7, rfl, HA, HJ7, BK113, HB⟩ := hcut
    cases kq with
    | zero => exact absurd HA.out (by simp [walk_leaf.j0])
    | succ kj7 =>
      have H := HA.out
      clear HA
      simp only [walk_leaf.j0] at H
      by_cases c15 : x35_7 = true
      · subst c15
        have H1 : ((walk_fault.f a4 true).bind fun bt117 => (some (bt117.1, bt117.2.1, bt117.2.2.1, bt117.2.2.2.1, bt117.2.2.2.2))) = some (r1, r2, r3, r4, r5) := by rw [if_pos rfl] at H; exact H
        clear H
        have H := H1
        clear H1
        replace H := Option.bind_eq_some_iff.mp H
        obtain ⟨⟨t117, t118, t119, t120, t121⟩, A160, H⟩ := H
        replace H : (some (t117, t118, t119, t120, t121)) = some (r1, r2, r3, r4, r5) := H
        have A16 := Aside0.mk A160
        clear A160
        simp only [Option.some.injEq, Prod.mk.injEq] at H
        obtain ⟨rfl, rfl, rfl, rfl, rfl⟩ := H
        go_wp2_with (first | ((with_reducible refine gate_callee (f := 43) rfl ?_); refine goesL_ (some 37) rfl rfl Try.func43 (by kernel_rfl) rfl #[.int .i64 a4, .bool true] rfl (by (try simp only [List.map_toArray, List.map_cons, List.map_nil]); first | done | rfl | (simp only [List.length_drop, List.length_take]; rfl)) ?_; (with_reducible refine (walk_fault.calls a4 true t117 t118 t119 t120 t121 _ A16.out).mono ?_); rintro e w17 ⟨rfl, hb⟩; refine ⟨_, rfl, ?_⟩; have n0_ := Aside0.mk (blk_below (g := gb113) (o := .cells #[.int .i64 0, .int .u32 0, .int .u32 0, .int .u32 0, .int .u32 0] 48 (0, 0)) (by (with_reducible repeat (first | refine blk_drewN ?_ _ | refine blk_drew ?_ | refine blk_alloc ?_ _)); exact BK113.out) hb); have n1_ := Aside0.mk (below_step (by repeat (first | (with_reducible first | exact HB.out | apply below_alloc | apply pw_below_drewN | apply below_drew1 | refine below_set ?_ GE113.out) | exact HB.out)) hb); clear BK113; clear HB; have BK113 := n0_; have HB := n1_; clear n0_ n1_; (try clear hb); (try clear hb2); (try clear hk); (try clear hi); have hcz18_0 : w17.cell? ⟨gb113, 0, none⟩ = some (.int .i64 0) := (blk_cell BK113.out 0).trans rfl; have hcz18_1 : w17.cell? ⟨gb113, 1, none⟩ = some (.int .u32 0) := (blk_cell BK113.out 1).trans rfl; have hcz18_2 : w17.cell? ⟨gb113, 2, none⟩ = some (.int .u32 0) := (blk_cell BK113.out 2).trans rfl; have hcz18_3 : w17.cell? ⟨gb113, 3, none⟩ = some (.int .u32 0) := (blk_cell BK113.out 3).trans rfl; have hcz18_4 : w17.cell? ⟨gb113, 4, none⟩ = some (.int .u32 0) := (blk_cell BK113.out 4).trans rfl; have hfz18_0 := blk_frozen BK113.out 0; have hfz18_1 := blk_frozen BK113.out 1; have hfz18_2 := blk_frozen BK113.out 2; have hfz18_3 := blk_frozen BK113.out 3; have hfz18_4 := blk_frozen BK113.out 4))
        refine bodyPost_ret (results_cell_row rfl _ _ gb113 48 #[.int .i64 t117, .int .u32 t118, .int .u32 t119, .int .u32 t120, .int .u32 t121] (0, 0) _ rfl (by (with_reducible repeat (first | refine blk_drewN ?_ _ | refine blk_drew ?_ | refine blk_alloc ?_ _)); refine blk_put (cs := #[.int .i64 t117, .int .u32 t118, .int .u32 t119, .int .u32 t120, .int .u32 0]) ?_ 4 _ rfl; (with_reducible repeat (first | refine blk_drewN ?_ _ | refine blk_drew ?_ | refine blk_alloc ?_ _)); refine blk_put (cs := #[.int .i64 t117, .int .u32 t118, .int .u32 t119, .int .u32 0, .int .u32 0]) ?_ 3 _ rfl; (with_reducible repeat (first | refine blk_drewN ?_ _ | refine blk_drew ?_ | refine blk_alloc ?_ _)); refine blk_put (cs := #[.int .i64 t117, .int .u32 t118, .int .u32 0, .int .u32 0, .int .u32 0]) ?_ 2 _ rfl; (with_reducible repeat (first | refine blk_drewN ?_ _ | refine blk_drew ?_ | refine blk_alloc ?_ _)); refine blk_put (cs := #[.int .i64 t117, .int .u32 0, .int .u32 0, .int .u32 0, .int .u32 0]) ?_ 1 _ rfl; (with_reducible repeat (first | refine blk_drewN ?_ _ | refine blk_drew ?_ | refine blk_alloc ?_ _)); refine blk_put (cs := #[.int .i64 0, .int .u32 0, .int .u32 0, .int .u32 0, .int .u32 0]) ?_ 0 _ rfl; (with_reducible repeat (first | refine blk_drewN ?_ _ | refine blk_drew ?_ | refine blk_alloc ?_ _)); exact BK113.out) Try.underlying48 rfl (by kernel_rfl)) rfl ?_
        exact ⟨by first | rfl | (simp [errW_none, errW_some] <;> rfl) | (simp [*, errW_none, errW_some] <;> rfl), by repeat (first | (with_reducible first | exact HB.out | apply below_alloc | apply pw_below_drewN | apply below_drew1 | refine below_set ?_ GE113.out) | exact HB.out)⟩
      · replace c15 := Bool.eq_false_iff.mpr c15
        subst c15
        have H1 : ((pte_Needs.f a0 a4).bind fun t122 => (if t122 = a0 then ((word_Bits.f a3 0 (wrap64 (12 + (wrap64 (10 * a5))))).bind fun t123 => (if ((Go.bits .or .u64 (IntKind.u64.wrap ((IntKind.u64.wrap (t114)) * 4096)) (IntKind.u64.wrap (t123))) / 4294967296) = 0 then (some (1, (Go.bits .or .u64 (IntKind.u64.wrap ((IntKind.u64.wrap (t114)) * 4096)) (IntKind.u64.wrap (t123))) % 4294967296, 0, 0, 0)) else ((walk_fault.f a4 false).bind fun bt124 => (some (bt124.1, bt124.2.1, bt124.2.2.1, bt124.2.2.2.1, bt124.2.2.2.2))))) else (some (4, 0, a1, t122, 0)))) = some (r1, r2, r3, r4, r5) := by rw [if_neg (show ¬ (false = true) by decide)] at H; exact H
        clear H
        have H := H1
        clear H1
        replace H := Option.bind_eq_some_iff.mp H
        obtain ⟨t122, A190, H⟩ := H
        replace H : (if t122 = a0 then ((word_Bits.f a3 0 (wrap64 (12 + (wrap64 (10 * a5))))).bind fun t123 => (if ((Go.bits .or .u64 (IntKind.u64.wrap ((IntKind.u64.wrap (t114)) * 4096)) (IntKind.u64.wrap (t123))) / 4294967296) = 0 then (some (1, (Go.bits .or .u64 (IntKind.u64.wrap ((IntKind.u64.wrap (t114)) * 4096)) (IntKind.u64.wrap (t123))) % 4294967296, 0, 0, 0)) else ((walk_fault.f a4 false).bind fun bt124 => (some (bt124.1, bt124.2.1, bt124.2.2.1, bt124.2.2.2.1, bt124.2.2.2.2))))) else (some (4, 0, a1, t122, 0))) = some (r1, r2, r3, r4, r5) := H
        have A19 := Aside0.mk A190
        clear A190
        by_cases c20 : t122 = a0
        · rw [if_pos c20] at H
          have c20b0 : (t122 == a0) = true := beq_iff_eq.mpr c20
          have c20b1 : (t122 != a0) = false := bne_eq_false_iff_eq.mpr c20
          clear c20
          replace H := Option.bind_eq_some_iff.mp H
          obtain ⟨t123, A210, H⟩ := H
          replace H : (if ((Go.bits .or .u64 (IntKind.u64.wrap ((IntKind.u64.wrap (t114)) * 4096)) (IntKind.u64.wrap (t123))) / 4294967296) = 0 then (some (1, (Go.bits .or .u64 (IntKind.u64.wrap ((IntKind.u64.wrap (t114)) * 4096)) (IntKind.u64.wrap (t123))) % 4294967296, 0, 0, 0)) else ((walk_fault.f a4 false).bind fun bt124 => (some (bt124.1, bt124.2.1, bt124.2.2.1, bt124.2.2.2.1, bt124.2.2.2.2)))) = some (r1, r2, r3, r4, r5) := H
          have A21 := Aside0.mk A210
          clear A210
          by_cases c22 : ((Go.bits .or .u64 (IntKind.u64.wrap ((IntKind.u64.wrap (t114)) * 4096)) (IntKind.u64.wrap (t123))) / 4294967296) = 0
          · rw [if_pos c22] at H
            have c22b0 : (((Go.bits .or .u64 (IntKind.u64.wrap ((IntKind.u64.wrap (t114)) * 4096)) (IntKind.u64.wrap (t123))) / 4294967296) == 0) = true := beq_iff_eq.mpr c22
            have c22b1 : (((Go.bits .or .u64 (IntKind.u64.wrap ((IntKind.u64.wrap (t114)) * 4096)) (IntKind.u64.wrap (t123))) / 4294967296) != 0) = false := bne_eq_false_iff_eq.mpr c22
            clear c22
            simp only [Option.some.injEq, Prod.mk.injEq] at H
            obtain ⟨rfl, rfl, rfl, rfl, rfl⟩ := H
            go_wp2_with (first | ((with_reducible refine gate_callee (f := 23) rfl ?_); refine goesL_ (some 40) rfl rfl Try.func23 (by kernel_rfl) rfl #[.int .u32 a0, .int .i64 a4] rfl (by (try simp only [List.map_toArray, List.map_cons, List.map_nil]); first | done | rfl | (simp only [List.length_drop, List.length_take]; rfl)) ?_; (with_reducible refine (pte_Needs.calls a0 a4 t122 _ A19.out).mono ?_); rintro e w' ⟨rfl, ⟨nd, rfl⟩⟩; refine ⟨_, rfl, ?_⟩; (try (rw [drewN_self wc]; generalize hq_ : World.drewN wc _ = wc; have n0_ : Aside0 (wc.heap[gb113]? = some (.cells #[.int .i64 0, .int .u32 0, .int .u32 0, .int .u32 0, .int .u32 0] 48 (0, 0))) := ⟨by rw [← hq_]; exact (by (with_reducible repeat (first | refine blk_drewN ?_ _ | refine blk_drew ?_ | refine blk_alloc ?_ _)); exact BK113.out)⟩; have n1_ : Aside0 (Below w.heap.size w wc) := ⟨by rw [← hq_]; exact (by repeat (first | (with_reducible first | exact HB.out | apply below_alloc | apply pw_below_drewN | apply below_drew1 | refine below_set ?_ GE113.out) | exact HB.out))⟩; clear BK113 HB hq_; have BK113 := n0_; have HB := n1_; clear n0_ n1_))) | ((with_reducible refine gate_callee (f := 44) rfl ?_); refine goesL_ (some 52) rfl rfl Try.func44 (by kernel_rfl) rfl #[.int .u32 a3, .int .i64 0, .int .i64 (wrap64 (12 + (wrap64 (10 * a5))))] rfl (by (try simp only [List.map_toArray, List.map_cons, List.map_nil]); first | done | rfl | (simp only [List.length_drop, List.length_take]; rfl)) ?_; (with_reducible refine (word_Bits.calls a3 0 (wrap64 (12 + (wrap64 (10 * a5)))) t123 _ A21.out).mono ?_); rintro e w23 ⟨rfl, hb⟩; refine ⟨_, rfl, ?_⟩; have n0_ := Aside0.mk (blk_below (g := gb113) (o := .cells #[.int .i64 0, .int .u32 0, .int .u32 0, .int .u32 0, .int .u32 0] 48 (0, 0)) (by (with_reducible repeat (first | refine blk_drewN ?_ _ | refine blk_drew ?_ | refine blk_alloc ?_ _)); exact BK113.out) hb); have n1_ := Aside0.mk (below_step (by repeat (first | (with_reducible first | exact HB.out | apply below_alloc | apply pw_below_drewN | apply below_drew1 | refine below_set ?_ GE113.out) | exact HB.out)) hb); clear BK113; clear HB; have BK113 := n0_; have HB := n1_; clear n0_ n1_; (try clear hb); (try clear hb2); (try clear hk); (try clear hi); have hcz24_0 : w23.cell? ⟨gb113, 0, none⟩ = some (.int .i64 0) := (blk_cell BK113.out 0).trans rfl; have hcz24_1 : w23.cell? ⟨gb113, 1, none⟩ = some (.int .u32 0) := (blk_cell BK113.out 1).trans rfl; have hcz24_2 : w23.cell? ⟨gb113, 2, none⟩ = some (.int .u32 0) := (blk_cell BK113.out 2).trans rfl; have hcz24_3 : w23.cell? ⟨gb113, 3, none⟩ = some (.int .u32 0) := (blk_cell BK113.out 3).trans rfl; have hcz24_4 : w23.cell? ⟨gb113, 4, none⟩ = some (.int .u32 0) := (blk_cell BK113.out 4).trans rfl; have hfz24_0 := blk_frozen BK113.out 0; have hfz24_1 := blk_frozen BK113.out 1; have hfz24_2 := blk_frozen BK113.out 2; have hfz24_3 := blk_frozen BK113.out 3; have hfz24_4 := blk_frozen BK113.out 4))
            refine bodyPost_ret (results_cell_row rfl _ _ gb113 48 #[.int .i64 1, .int .u32 ((Go.bits .or .u64 (IntKind.u64.wrap ((IntKind.u64.wrap (t114)) * 4096)) (IntKind.u64.wrap (t123))) % 4294967296), .int .u32 0, .int .u32 0, .int .u32 0] (0, 0) _ rfl (by (with_reducible repeat (first | refine blk_drewN ?_ _ | refine blk_drew ?_ | refine blk_alloc ?_ _)); refine blk_put (cs := #[.int .i64 1, .int .u32 ((Go.bits .or .u64 (IntKind.u64.wrap ((IntKind.u64.wrap (t114)) * 4096)) (IntKind.u64.wrap (t123))) % 4294967296), .int .u32 0, .int .u32 0, .int .u32 0]) ?_ 4 _ rfl; (with_reducible repeat (first | refine blk_drewN ?_ _ | refine blk_drew ?_ | refine blk_alloc ?_ _)); refine blk_put (cs := #[.int .i64 1, .int .u32 ((Go.bits .or .u64 (IntKind.u64.wrap ((IntKind.u64.wrap (t114)) * 4096)) (IntKind.u64.wrap (t123))) % 4294967296), .int .u32 0, .int .u32 0, .int .u32 0]) ?_ 3 _ rfl; (with_reducible repeat (first | refine blk_drewN ?_ _ | refine blk_drew ?_ | refine blk_alloc ?_ _)); refine blk_put (cs := #[.int .i64 1, .int .u32 ((Go.bits .or .u64 (IntKind.u64.wrap ((IntKind.u64.wrap (t114)) * 4096)) (IntKind.u64.wrap (t123))) % 4294967296), .int .u32 0, .int .u32 0, .int .u32 0]) ?_ 2 _ rfl; (with_reducible repeat (first | refine blk_drewN ?_ _ | refine blk_drew ?_ | refine blk_alloc ?_ _)); refine blk_put (cs := #[.int .i64 1, .int .u32 0, .int .u32 0, .int .u32 0, .int .u32 0]) ?_ 1 _ rfl; (with_reducible repeat (first | refine blk_drewN ?_ _ | refine blk_drew ?_ | refine blk_alloc ?_ _)); refine blk_put (cs := #[.int .i64 0, .int .u32 0, .int .u32 0, .int .u32 0, .int .u32 0]) ?_ 0 _ rfl; (with_reducible repeat (first | refine blk_drewN ?_ _ | refine blk_drew ?_ | refine blk_alloc ?_ _)); exact BK113.out) Try.underlying48 rfl (by kernel_rfl)) rfl ?_
            exact ⟨by first | rfl | (simp [errW_none, errW_some] <;> rfl) | (simp [*, errW_none, errW_some] <;> rfl), by repeat (first | (with_reducible first | exact HB.out | apply below_alloc | apply pw_below_drewN | apply below_drew1 | refine below_set ?_ GE113.out) | exact HB.out)⟩
          · rw [if_neg c22] at H
            have c22b0 : (((Go.bits .or .u64 (IntKind.u64.wrap ((IntKind.u64.wrap (t114)) * 4096)) (IntKind.u64.wrap (t123))) / 4294967296) == 0) = false := beq_eq_false_iff_ne.mpr c22
            have c22b1 : (((Go.bits .or .u64 (IntKind.u64.wrap ((IntKind.u64.wrap (t114)) * 4096)) (IntKind.u64.wrap (t123))) / 4294967296) != 0) = true := bne_iff_ne.mpr c22
            replace H := Option.bind_eq_some_iff.mp H
            obtain ⟨⟨t124, t125, t126, t127, t128⟩, A250, H⟩ := H
            replace H : (some (t124, t125, t126, t127, t128)) = some (r1, r2, r3, r4, r5) := H
            have A25 := Aside0.mk A250
            clear A250
            simp only [Option.some.injEq, Prod.mk.injEq] at H
            obtain ⟨rfl, rfl, rfl, rfl, rfl⟩ := H
            go_wp2_with (first | ((with_reducible refine gate_callee (f := 23) rfl ?_); refine goesL_ (some 40) rfl rfl Try.func23 (by kernel_rfl) rfl #[.int .u32 a0, .int .i64 a4] rfl (by (try simp only [List.map_toArray, List.map_cons, List.map_nil]); first | done | rfl | (simp only [List.length_drop, List.length_take]; rfl)) ?_; (with_reducible refine (pte_Needs.calls a0 a4 t122 _ A19.out).mono ?_); rintro e w' ⟨rfl, ⟨nd, rfl⟩⟩; refine ⟨_, rfl, ?_⟩; (try (rw [drewN_self wc]; generalize hq_ : World.drewN wc _ = wc; have n0_ : Aside0 (wc.heap[gb113]? = some (.cells #[.int .i64 0, .int .u32 0, .int .u32 0, .int .u32 0, .int .u32 0] 48 (0, 0))) := ⟨by rw [← hq_]; exact (by (with_reducible repeat (first | refine blk_drewN ?_ _ | refine blk_drew ?_ | refine blk_alloc ?_ _)); exact BK113.out)⟩; have n1_ : Aside0 (Below w.heap.size w wc) := ⟨by rw [← hq_]; exact (by repeat (first | (with_reducible first | exact HB.out | apply below_alloc | apply pw_below_drewN | apply below_drew1 | refine below_set ?_ GE113.out) | exact HB.out))⟩; clear BK113 HB hq_; have BK113 := n0_; have HB := n1_; clear n0_ n1_))) | ((with_reducible refine gate_callee (f := 44) rfl ?_); refine goesL_ (some 52) rfl rfl Try.func44 (by kernel_rfl) rfl #[.int .u32 a3, .int .i64 0, .int .i64 (wrap64 (12 + (wrap64 (10 * a5))))] rfl (by (try simp only [List.map_toArray, List.map_cons, List.map_nil]); first | done | rfl | (simp only [List.length_drop, List.length_take]; rfl)) ?_; (with_reducible refine (word_Bits.calls a3 0 (wrap64 (12 + (wrap64 (10 * a5)))) t123 _ A21.out).mono ?_); rintro e w26 ⟨rfl, hb⟩; refine ⟨_, rfl, ?_⟩; have n0_ := Aside0.mk (blk_below (g := gb113) (o := .cells #[.int .i64 0, .int .u32 0, .int .u32 0, .int .u32 0, .int .u32 0] 48 (0, 0)) (by (with_reducible repeat (first | refine blk_drewN ?_ _ | refine blk_drew ?_ | refine blk_alloc ?_ _)); exact BK113.out) hb); have n1_ := Aside0.mk (below_step (by repeat (first | (with_reducible first | exact HB.out | apply below_alloc | apply pw_below_drewN | apply below_drew1 | refine below_set ?_ GE113.out) | exact HB.out)) hb); clear BK113; clear HB; have BK113 := n0_; have HB := n1_; clear n0_ n1_; (try clear hb); (try clear hb2); (try clear hk); (try clear hi)) | ((with_reducible refine gate_callee (f := 43) rfl ?_); refine goesL_ (some 59) rfl rfl Try.func43 (by kernel_rfl) rfl #[.int .i64 a4, .bool false] rfl (by (try simp only [List.map_toArray, List.map_cons, List.map_nil]); first | done | rfl | (simp only [List.length_drop, List.length_take]; rfl)) ?_; (with_reducible refine (walk_fault.calls a4 false t124 t125 t126 t127 t128 _ A25.out).mono ?_); rintro e w27 ⟨rfl, hb⟩; refine ⟨_, rfl, ?_⟩; have n0_ := Aside0.mk (blk_below (g := gb113) (o := .cells #[.int .i64 0, .int .u32 0, .int .u32 0, .int .u32 0, .int .u32 0] 48 (0, 0)) (by (with_reducible repeat (first | refine blk_drewN ?_ _ | refine blk_drew ?_ | refine blk_alloc ?_ _)); exact BK113.out) hb); have n1_ := Aside0.mk (below_step (by repeat (first | (with_reducible first | exact HB.out | apply below_alloc | apply pw_below_drewN | apply below_drew1 | refine below_set ?_ GE113.out) | exact HB.out)) hb); clear BK113; clear HB; have BK113 := n0_; have HB := n1_; clear n0_ n1_; (try clear hb); (try clear hb2); (try clear hk); (try clear hi); have hcz28_0 : w27.cell? ⟨gb113, 0, none⟩ = some (.int .i64 0) := (blk_cell BK113.out 0).trans rfl; have hcz28_1 : w27.cell? ⟨gb113, 1, none⟩ = some (.int .u32 0) := (blk_cell BK113.out 1).trans rfl; have hcz28_2 : w27.cell? ⟨gb113, 2, none⟩ = some (.int .u32 0) := (blk_cell BK113.out 2).trans rfl; have hcz28_3 : w27.cell? ⟨gb113, 3, none⟩ = some (.int .u32 0) := (blk_cell BK113.out 3).trans rfl; have hcz28_4 : w27.cell? ⟨gb113, 4, none⟩ = some (.int .u32 0) := (blk_cell BK113.out 4).trans rfl; have hfz28_0 := blk_frozen BK113.out 0; have hfz28_1 := blk_frozen BK113.out 1; have hfz28_2 := blk_frozen BK113.out 2; have hfz28_3 := blk_frozen BK113.out 3; have hfz28_4 := blk_frozen BK113.out 4))
            refine bodyPost_ret (results_cell_row rfl _ _ gb113 48 #[.int .i64 t124, .int .u32 t125, .int .u32 t126, .int .u32 t127, .int .u32 t128] (0, 0) _ rfl (by (with_reducible repeat (first | refine blk_drewN ?_ _ | refine blk_drew ?_ | refine blk_alloc ?_ _)); refine blk_put (cs := #[.int .i64 t124, .int .u32 t125, .int .u32 t126, .int .u32 t127, .int .u32 0]) ?_ 4 _ rfl; (with_reducible repeat (first | refine blk_drewN ?_ _ | refine blk_drew ?_ | refine blk_alloc ?_ _)); refine blk_put (cs := #[.int .i64 t124, .int .u32 t125, .int .u32 t126, .int .u32 0, .int .u32 0]) ?_ 3 _ rfl; (with_reducible repeat (first | refine blk_drewN ?_ _ | refine blk_drew ?_ | refine blk_alloc ?_ _)); refine blk_put (cs := #[.int .i64 t124, .int .u32 t125, .int .u32 0, .int .u32 0, .int .u32 0]) ?_ 2 _ rfl; (with_reducible repeat (first | refine blk_drewN ?_ _ | refine blk_drew ?_ | refine blk_alloc ?_ _)); refine blk_put (cs := #[.int .i64 t124, .int .u32 0, .int .u32 0, .int .u32 0, .int .u32 0]) ?_ 1 _ rfl; (with_reducible repeat (first | refine blk_drewN ?_ _ | refine blk_drew ?_ | refine blk_alloc ?_ _)); refine blk_put (cs := #[.int .i64 0, .int .u32 0, .int .u32 0, .int .u32 0, .int .u32 0]) ?_ 0 _ rfl; (with_reducible repeat (first | refine blk_drewN ?_ _ | refine blk_drew ?_ | refine blk_alloc ?_ _)); exact BK113.out) Try.underlying48 rfl (by kernel_rfl)) rfl ?_
            exact ⟨by first | rfl | (simp [errW_none, errW_some] <;> rfl) | (simp [*, errW_none, errW_some] <;> rfl), by repeat (first | (with_reducible first | exact HB.out | apply below_alloc | apply pw_below_drewN | apply below_drew1 | refine below_set ?_ GE113.out) | exact HB.out)⟩
        · rw [if_neg c20] at H
          have c20b0 : (t122 == a0) = false := beq_eq_false_iff_ne.mpr c20
          have c20b1 : (t122 != a0) = true := bne_iff_ne.mpr c20
          simp only [Option.some.injEq, Prod.mk.injEq] at H
          obtain ⟨rfl, rfl, rfl, rfl, rfl⟩ := H
          go_wp2_with (first | ((with_reducible refine gate_callee (f := 23) rfl ?_); refine goesL_ (some 40) rfl rfl Try.func23 (by kernel_rfl) rfl #[.int .u32 a0, .int .i64 a4] rfl (by (try simp only [List.map_toArray, List.map_cons, List.map_nil]); first | done | rfl | (simp only [List.length_drop, List.length_take]; rfl)) ?_; (with_reducible refine (pte_Needs.calls a0 a4 t122 _ A19.out).mono ?_); rintro e w' ⟨rfl, ⟨nd, rfl⟩⟩; refine ⟨_, rfl, ?_⟩; (try (rw [drewN_self wc]; generalize hq_ : World.drewN wc _ = wc; have n0_ : Aside0 (wc.heap[gb113]? = some (.cells #[.int .i64 0, .int .u32 0, .int .u32 0, .int .u32 0, .int .u32 0] 48 (0, 0))) := ⟨by rw [← hq_]; exact (by (with_reducible repeat (first | refine blk_drewN ?_ _ | refine blk_drew ?_ | refine blk_alloc ?_ _)); exact BK113.out)⟩; have n1_ : Aside0 (Below w.heap.size w wc) := ⟨by rw [← hq_]; exact (by repeat (first | (with_reducible first | exact HB.out | apply below_alloc | apply pw_below_drewN | apply below_drew1 | refine below_set ?_ GE113.out) | exact HB.out))⟩; clear BK113 HB hq_; have BK113 := n0_; have HB := n1_; clear n0_ n1_)); have hcz29_0 : wc.cell? ⟨gb113, 0, none⟩ = some (.int .i64 0) := (blk_cell BK113.out 0).trans rfl; have hcz29_1 : wc.cell? ⟨gb113, 1, none⟩ = some (.int .u32 0) := (blk_cell BK113.out 1).trans rfl; have hcz29_2 : wc.cell? ⟨gb113, 2, none⟩ = some (.int .u32 0) := (blk_cell BK113.out 2).trans rfl; have hcz29_3 : wc.cell? ⟨gb113, 3, none⟩ = some (.int .u32 0) := (blk_cell BK113.out 3).trans rfl; have hcz29_4 : wc.cell? ⟨gb113, 4, none⟩ = some (.int .u32 0) := (blk_cell BK113.out 4).trans rfl; have hfz29_0 := blk_frozen BK113.out 0; have hfz29_1 := blk_frozen BK113.out 1; have hfz29_2 := blk_frozen BK113.out 2; have hfz29_3 := blk_frozen BK113.out 3; have hfz29_4 := blk_frozen BK113.out 4))
          refine bodyPost_ret (results_cell_row rfl _ _ gb113 48 #[.int .i64 4, .int .u32 0, .int .u32 a1, .int .u32 t122, .int .u32 0] (0, 0) _ rfl (by (with_reducible repeat (first | refine blk_drewN ?_ _ | refine blk_drew ?_ | refine blk_alloc ?_ _)); refine blk_put (cs := #[.int .i64 4, .int .u32 0, .int .u32 a1, .int .u32 t122, .int .u32 0]) ?_ 4 _ rfl; (with_reducible repeat (first | refine blk_drewN ?_ _ | refine blk_drew ?_ | refine blk_alloc ?_ _)); refine blk_put (cs := #[.int .i64 4, .int .u32 0, .int .u32 a1, .int .u32 0, .int .u32 0]) ?_ 3 _ rfl; (with_reducible repeat (first | refine blk_drewN ?_ _ | refine blk_drew ?_ | refine blk_alloc ?_ _)); refine blk_put (cs := #[.int .i64 4, .int .u32 0, .int .u32 0, .int .u32 0, .int .u32 0]) ?_ 2 _ rfl; (with_reducible repeat (first | refine blk_drewN ?_ _ | refine blk_drew ?_ | refine blk_alloc ?_ _)); refine blk_put (cs := #[.int .i64 4, .int .u32 0, .int .u32 0, .int .u32 0, .int .u32 0]) ?_ 1 _ rfl; (with_reducible repeat (first | refine blk_drewN ?_ _ | refine blk_drew ?_ | refine blk_alloc ?_ _)); refine blk_put (cs := #[.int .i64 0, .int .u32 0, .int .u32 0, .int .u32 0, .int .u32 0]) ?_ 0 _ rfl; (with_reducible repeat (first | refine blk_drewN ?_ _ | refine blk_drew ?_ | refine blk_alloc ?_ _)); exact BK113.out) Try.underlying48 rfl (by kernel_rfl)) rfl ?_
          exact ⟨by first | rfl | (simp [errW_none, errW_some] <;> rfl) | (simp [*, errW_none, errW_some] <;> rfl), by repeat (first | (with_reducible first | exact HB.out | apply below_alloc | apply pw_below_drewN | apply below_drew1 | refine below_set ?_ GE113.out) | exact HB.out)⟩

/-! ### walk_next: function 42 -/
mutual
def walk_next.l0 : Nat → Int → Int → Int → Int → List (S52) → Int → Int → Option (Int × Int × Int × Int × Int × Int)
  | 0, _, _, _, _, _, _, _ => none
  | k + 1, x1, x2, x3, x4, x5, x14, x15 => if x15 ≥ 0 then ((word_Bits.f x2 (wrap64 (12 + (wrap64 (10 * x15)))) 10).bind fun t137 => (if ((IntKind.u64.wrap ((IntKind.u64.wrap ((IntKind.u64.wrap (x14)) * 4096)) + (IntKind.u64.wrap (4 * (IntKind.u64.wrap (t137)))))) / 4294967296) = 0 then (walk_next.j1 k x1 x2 x3 x4 x5 x15 (wrap64 (1 - x15)) (IntKind.u64.wrap ((IntKind.u64.wrap ((IntKind.u64.wrap (x14)) * 4096)) + (IntKind.u64.wrap (4 * (IntKind.u64.wrap (t137)))))) (decide ((IntKind.u64.wrap ((IntKind.u64.wrap ((IntKind.u64.wrap ((IntKind.u64.wrap (x14)) * 4096)) + (IntKind.u64.wrap (4 * (IntKind.u64.wrap (t137)))))) + 4)) > (IntKind.u64.wrap (mx x4 0))))) else (walk_next.j1 k x1 x2 x3 x4 x5 x15 (wrap64 (1 - x15)) (IntKind.u64.wrap ((IntKind.u64.wrap ((IntKind.u64.wrap (x14)) * 4096)) + (IntKind.u64.wrap (4 * (IntKind.u64.wrap (t137)))))) true))) else ((walk_fault.f x3 true).bind fun bt132 => (some (bt132.1, bt132.2.1, bt132.2.2.1, bt132.2.2.2.1, bt132.2.2.2.2, 2)))
def walk_next.j1 : Nat → Int → Int → Int → Int → List (S52) → Int → Int → Int → Bool → Option (Int × Int × Int × Int × Int × Int)
  | 0, _, _, _, _, _, _, _, _, _ => none
  | k + 1, x1, x2, x3, x4, x5, x15, x16, x18, x56 => if x56 = true then ((walk_fault.f x3 false).bind fun bt138 => (some (bt138.1, bt138.2.1, bt138.2.2.1, bt138.2.2.2.1, bt138.2.2.2.2, x16))) else (if x16 = (x5.length : Int) then (some (3, 0, (x18) % 4294967296, 0, 0, x16)) else (if 0 ≤ x16 then (if x16 < (x5.length : Int) then (if ((rd_T52 x5 x16).f0) = ((x18) % 4294967296) then ((pte_Bad.f ((rd_T52 x5 x16).f1)).bind fun t145 => (walk_next.j2 k x1 x2 x3 x4 x5 x15 x16 x18 ((rd_T52 x5 x16).f1) t145)) else (walk_next.j2 k x1 x2 x3 x4 x5 x15 x16 x18 ((rd_T52 x5 x16).f1) true)) else (none)) else (none)))
def walk_next.j2 : Nat → Int → Int → Int → Int → List (S52) → Int → Int → Int → Int → Bool → Option (Int × Int × Int × Int × Int × Int)
  | 0, _, _, _, _, _, _, _, _, _, _ => none
  | k + 1, x1, x2, x3, x4, x5, x15, x16, x18, x19, x84 => if x84 = true then ((walk_fault.f x3 true).bind fun bt146 => (some (bt146.1, bt146.2.1, bt146.2.2.1, bt146.2.2.2.1, bt146.2.2.2.2, wrap64 (x16 + 1)))) else ((pte_Leaf.f x19).bind fun t151 => (if t151 = true then ((walk_leaf.f k x19 ((x18) % 4294967296) x1 x2 x3 x15).bind fun bt152 => (some (bt152.1, bt152.2.1, bt152.2.2.1, bt152.2.2.2.1, bt152.2.2.2.2, wrap64 (x16 + 1)))) else ((pte_Page.f x19).bind fun t157 => (walk_next.l0 k x1 x2 x3 x4 x5 t157 (wrap64 (x15 - 1))))))
end
def walk_next.f (k : Nat) (a0 : Int) (a1 : Int) (a2 : Int) (a3 : Int) (a4 : Int) (l5 : List (S52)) : Option (Int × Int × Int × Int × Int × Int) := (walk_Entries.f a0 a1).bind fun t130 => (if t130 = 0 then (some (1, a2, 0, 0, 0, 0)) else ((word_Bits.f a0 0 22).bind fun t131 => (walk_next.l0 k a1 a2 a3 a4 l5 t131 1)))
theorem walk_next.mono_l : ∀ k, (∀ y0 y1 y2 y3 y4 y5 y6, LeO (walk_next.l0 k y0 y1 y2 y3 y4 y5 y6) (walk_next.l0 (k + 1) y0 y1 y2 y3 y4 y5 y6)) ∧ (∀ y0 y1 y2 y3 y4 y5 y6 y7 y8, LeO (walk_next.j1 k y0 y1 y2 y3 y4 y5 y6 y7 y8) (walk_next.j1 (k + 1) y0 y1 y2 y3 y4 y5 y6 y7 y8)) ∧ (∀ y0 y1 y2 y3 y4 y5 y6 y7 y8 y9, LeO (walk_next.j2 k y0 y1 y2 y3 y4 y5 y6 y7 y8 y9) (walk_next.j2 (k + 1) y0 y1 y2 y3 y4 y5 y6 y7 y8 y9))
  | 0 => ⟨fun _ _ _ _ _ _ _ r h => by simp [walk_next.l0] at h, fun _ _ _ _ _ _ _ _ _ r h => by simp [walk_next.j1] at h, fun _ _ _ _ _ _ _ _ _ _ r h => by simp [walk_next.j2] at h⟩
  | k + 1 => by
    obtain ⟨ih0, ih1, ih2⟩ := walk_next.mono_l k
    refine ⟨?_, ?_, ?_⟩
    · intro y0 y1 y2 y3 y4 y5 y6
      unfold walk_next.l0
      repeat' first
      | (with_reducible exact ih0 _ _ _ _ _ _ _)
      | (with_reducible exact ih1 _ _ _ _ _ _ _ _ _)
      | (with_reducible exact ih2 _ _ _ _ _ _ _ _ _ _)
      | (with_reducible exact walk_leaf.mono _ _ _ _ _ _ _)
      | (with_reducible exact LeO.refl _)
      | (with_reducible exact LeO.none _)
      | (with_reducible refine LeO.ite ?_ ?_)
      | (with_reducible refine LeO.bind ?_ (fun _ => ?_))
      | exact ih0 _ _ _ _ _ _ _
      | exact ih1 _ _ _ _ _ _ _ _ _
      | exact ih2 _ _ _ _ _ _ _ _ _ _
      | exact walk_leaf.mono _ _ _ _ _ _ _
      | exact LeO.none _
      | refine LeO.ite ?_ ?_
      | refine LeO.bind ?_ (fun _ => ?_)
    · intro y0 y1 y2 y3 y4 y5 y6 y7 y8
      unfold walk_next.j1
      repeat' first
      | (with_reducible exact ih0 _ _ _ _ _ _ _)
      | (with_reducible exact ih1 _ _ _ _ _ _ _ _ _)
      | (with_reducible exact ih2 _ _ _ _ _ _ _ _ _ _)
      | (with_reducible exact walk_leaf.mono _ _ _ _ _ _ _)
      | (with_reducible exact LeO.refl _)
      | (with_reducible exact LeO.none _)
      | (with_reducible refine LeO.ite ?_ ?_)
      | (with_reducible refine LeO.bind ?_ (fun _ => ?_))
      | exact ih0 _ _ _ _ _ _ _
      | exact ih1 _ _ _ _ _ _ _ _ _
      | exact ih2 _ _ _ _ _ _ _ _ _ _
      | exact walk_leaf.mono _ _ _ _ _ _ _
      | exact LeO.none _
      | refine LeO.ite ?_ ?_
      | refine LeO.bind ?_ (fun _ => ?_)
    · intro y0 y1 y2 y3 y4 y5 y6 y7 y8 y9
      unfold walk_next.j2
      repeat' first
      | (with_reducible exact ih0 _ _ _ _ _ _ _)
      | (with_reducible exact ih1 _ _ _ _ _ _ _ _ _)
      | (with_reducible exact ih2 _ _ _ _ _ _ _ _ _ _)
      | (with_reducible exact walk_leaf.mono _ _ _ _ _ _ _)
      | (with_reducible exact LeO.refl _)
      | (with_reducible exact LeO.none _)
      | (with_reducible refine LeO.ite ?_ ?_)
      | (with_reducible refine LeO.bind ?_ (fun _ => ?_))
      | exact ih0 _ _ _ _ _ _ _
      | exact ih1 _ _ _ _ _ _ _ _ _
      | exact ih2 _ _ _ _ _ _ _ _ _ _
      | exact walk_leaf.mono _ _ _ _ _ _ _
      | exact LeO.none _
      | refine LeO.ite ?_ ?_
      | refine LeO.bind ?_ (fun _ => ?_)
theorem walk_next.mono : ∀ a0 a1 a2 a3 a4 a5 k, LeO (walk_next.f k a0 a1 a2 a3 a4 a5) (walk_next.f (k + 1) a0 a1 a2 a3 a4 a5) := by
  intro a0 a1 a2 a3 a4 a5 k
  obtain ⟨ih0, ih1, ih2⟩ := walk_next.mono_l k
  unfold walk_next.f
  repeat' first
      | (with_reducible exact ih0 _ _ _ _ _ _ _)
      | (with_reducible exact ih1 _ _ _ _ _ _ _ _ _)
      | (with_reducible exact ih2 _ _ _ _ _ _ _ _ _ _)
      | (with_reducible exact walk_leaf.mono _ _ _ _ _ _ _)
      | (with_reducible exact LeO.refl _)
      | (with_reducible exact LeO.none _)
      | (with_reducible refine LeO.ite ?_ ?_)
      | (with_reducible refine LeO.bind ?_ (fun _ => ?_))
      | exact ih0 _ _ _ _ _ _ _
      | exact ih1 _ _ _ _ _ _ _ _ _
      | exact ih2 _ _ _ _ _ _ _ _ _ _
      | exact walk_leaf.mono _ _ _ _ _ _ _
      | exact LeO.none _
      | refine LeO.ite ?_ ?_
      | refine LeO.bind ?_ (fun _ => ?_)
set_option maxHeartbeats 8000000 in
set_option maxRecDepth 100000 in
theorem walk_next.calls (k : Nat) (a0 : Int) (a1 : Int) (a2 : Int) (a3 : Int) (a4 : Int) (A5 : Option Addr) (c5 : Nat) (l5 : List (S52)) (r1 : Int) (r2 : Int) (r3 : Int) (r4 : Int) (r5 : Int) (r6 : Int) (w : World) (hr5 : Kd.C k52 w A5 l5.length l5) (hc5 : l5.length ≤ c5) (h : walk_next.f k a0 a1 a2 a3 a4 l5 = some (r1, r2, r3, r4, r5, r6)) :
    Calls Try.prog 42 #[.int .u32 a0, .int .i64 a1, .int .u32 a2, .int .i64 a3, .int .i64 a4, .slice A5 l5.length c5] w fun e w' => e = .returned (.tuple #[.agg #[.int .i64 r1, .int .u32 r2, .int .u32 r3, .int .u32 r4, .int .u32 r5], .int .i64 r6]) ∧ Below w.heap.size w w' := by
  have hu48 := Try.underlying48
  have HR5 := Aside0.mk hr5
  have HC5 := Aside0.mk hc5
  clear hr5 hc5
  have HB := Aside0.mk (Below.refl w.heap.size w)
  have H : ((walk_Entries.f a0 a1).bind fun t130 => (if t130 = 0 then (some (1, a2, 0, 0, 0, 0)) else ((word_Bits.f a0 0 22).bind fun t131 => (walk_next.l0 k a1 a2 a3 a4 l5 t131 1)))) = some (r1, r2, r3, r4, r5, r6) := h
  clear h
  replace H := Option.bind_eq_some_iff.mp H
  obtain ⟨t130, A70, H⟩ := H
  replace H : (if t130 = 0 then (some (1, a2, 0, 0, 0, 0)) else ((word_Bits.f a0 0 22).bind fun t131 => (walk_next.l0 k a1 a2 a3 a4 l5 t131 1))) = some (r1, r2, r3, r4, r5, r6) := H
  have A7 := Aside0.mk A70
  clear A70
  by_cases c8 : t130 = 0
  · rw [if_pos c8] at H
    have c8b0 : (t130 == 0) = true := beq_iff_eq.mpr c8
    have c8b1 : (t130 != 0) = false := bne_eq_false_iff_eq.mpr c8
    clear c8
    simp only [Option.some.injEq, Prod.mk.injEq] at H
    obtain ⟨rfl, rfl, rfl, rfl, rfl, rfl⟩ := H
    go_enter Try.func42, Try.ntmps42
    go_wp2_with (first | ((with_reducible refine gate_dst (N := 12) rfl ?_); (try (refine gate_guard (by rfl) ?_; dsimp only)); refine box_event ?hg (N := 12) ?hd (cs := #[.int .i64 0, .int .u32 0, .int .u32 0, .int .u32 0, .int .u32 0]) (t := 48) ?hr ?_; (case hd => rfl); (case hg => rfl); (case hr => first | (go_simp; done) | (go_simp; rfl)); intro gb129 hg w9 hbox hb; have n0_ := Aside0.mk (below_step (by repeat (first | (with_reducible first | exact HB.out | apply below_alloc | apply pw_below_drewN | apply below_drew1) | exact HB.out)) hb); have n1_ := Aside0.mk (hbox); have n2_ := Aside0.mk ((by rw [hg]; exact (below_size (by repeat (first | (with_reducible first | exact HB.out | apply below_alloc | apply pw_below_drewN | apply below_drew1) | exact HB.out))) : w.heap.size ≤ gb129)); have n3_ := Aside0.mk ((by rw [hg]; exact (below_size (by repeat (first | (with_reducible first | exact HB.out | apply below_alloc | apply pw_below_drewN | apply below_drew1) | exact HB.out))) : w.heap.size ≤ gb129)); clear HB; have HB := n0_; have BK129 := n1_; have GW129 := n2_; have GE129 := n3_; clear n0_ n1_ n2_ n3_; clear hb hbox hg) | ((with_reducible refine gate_callee (f := 22) rfl ?_); refine goesL_ (some 22) rfl rfl Try.func22 (by kernel_rfl) rfl #[.int .u32 a0, .int .i64 a1] rfl (by (try simp only [List.map_toArray, List.map_cons, List.map_nil]); first | done | rfl | (simp only [List.length_drop, List.length_take]; rfl)) ?_; (with_reducible refine (walk_Entries.calls a0 a1 t130 _ A7.out).mono ?_); rintro e w10 ⟨rfl, hb⟩; refine ⟨_, rfl, ?_⟩; have n0_ := Aside0.mk (blk_below (g := gb129) (o := .cells #[.int .i64 0, .int .u32 0, .int .u32 0, .int .u32 0, .int .u32 0] 48 (0, 0)) (by (with_reducible repeat (first | refine blk_drewN ?_ _ | refine blk_drew ?_ | refine blk_alloc ?_ _)); exact BK129.out) hb); have n1_ := Aside0.mk (below_step (by repeat (first | (with_reducible first | exact HB.out | apply below_alloc | apply pw_below_drewN | apply below_drew1 | refine below_set ?_ GE129.out) | exact HB.out)) hb); clear BK129; clear HB; have BK129 := n0_; have HB := n1_; clear n0_ n1_; (try clear hb); (try clear hb2); (try clear hk); (try clear hi); have hcz11_0 : w10.cell? ⟨gb129, 0, none⟩ = some (.int .i64 0) := (blk_cell BK129.out 0).trans rfl; have hcz11_1 : w10.cell? ⟨gb129, 1, none⟩ = some (.int .u32 0) := (blk_cell BK129.out 1).trans rfl; have hcz11_2 : w10.cell? ⟨gb129, 2, none⟩ = some (.int .u32 0) := (blk_cell BK129.out 2).trans rfl; have hcz11_3 : w10.cell? ⟨gb129, 3, none⟩ = some (.int .u32 0) := (blk_cell BK129.out 3).trans rfl; have hcz11_4 : w10.cell? ⟨gb129, 4, none⟩ = some (.int .u32 0) := (blk_cell BK129.out 4).trans rfl; have hfz11_0 := blk_frozen BK129.out 0; have hfz11_1 := blk_frozen BK129.out 1; have hfz11_2 := blk_frozen BK129.out 2; have hfz11_3 := blk_frozen BK129.out 3; have hfz11_4 := blk_frozen BK129.out 4))
    refine bodyPost_ret (results_ct rfl _ _ gb129 48 #[.int .i64 1, .int .u32 a2, .int .u32 0, .int .u32 0, .int .u32 0] (0, 0) _ rfl (by (with_reducible repeat (first | refine blk_drewN ?_ _ | refine blk_drew ?_ | refine blk_alloc ?_ _)); refine blk_put (cs := #[.int .i64 1, .int .u32 a2, .int .u32 0, .int .u32 0, .int .u32 0]) ?_ 4 _ rfl; (with_reducible repeat (first | refine blk_drewN ?_ _ | refine blk_drew ?_ | refine blk_alloc ?_ _)); refine blk_put (cs := #[.int .i64 1, .int .u32 a2, .int .u32 0, .int .u32 0, .int .u32 0]) ?_ 3 _ rfl; (with_reducible repeat (first | refine blk_drewN ?_ _ | refine blk_drew ?_ | refine blk_alloc ?_ _)); refine blk_put (cs := #[.int .i64 1, .int .u32 a2, .int .u32 0, .int .u32 0, .int .u32 0]) ?_ 2 _ rfl; (with_reducible repeat (first | refine blk_drewN ?_ _ | refine blk_drew ?_ | refine blk_alloc ?_ _)); refine blk_put (cs := #[.int .i64 1, .int .u32 0, .int .u32 0, .int .u32 0, .int .u32 0]) ?_ 1 _ rfl; (with_reducible repeat (first | refine blk_drewN ?_ _ | refine blk_drew ?_ | refine blk_alloc ?_ _)); refine blk_put (cs := #[.int .i64 0, .int .u32 0, .int .u32 0, .int .u32 0, .int .u32 0]) ?_ 0 _ rfl; (with_reducible repeat (first | refine blk_drewN ?_ _ | refine blk_drew ?_ | refine blk_alloc ?_ _)); exact BK129.out) Try.underlying48 rfl (by kernel_rfl)) rfl ?_
    exact ⟨by first | rfl | (simp [errW_none, errW_some] <;> rfl) | (simp [*, errW_none, errW_some] <;> rfl), by repeat (first | (with_reducible first | exact HB.out | apply below_alloc | apply pw_below_drewN | apply below_drew1 | refine below_set ?_ GE129.out) | exact HB.out)⟩
  · rw [if_neg c8] at H
    have c8b0 : (t130 == 0) = false := beq_eq_false_iff_ne.mpr c8
    have c8b1 : (t130 != 0) = true := bne_iff_ne.mpr c8
    replace H := Option.bind_eq_some_iff.mp H
    obtain ⟨t131, A120, H⟩ := H
    replace H : (walk_next.l0 k a1 a2 a3 a4 l5 t131 1) = some (r1, r2, r3, r4, r5, r6) := H
    have A12 := Aside0.mk A120
    clear A120
    have H' := Aside0.mk H
    clear H
    go_enter Try.func42, Try.ntmps42
    go_wp2_with (first | ((with_reducible refine gate_dst (N := 12) rfl ?_); (try (refine gate_guard (by rfl) ?_; dsimp only)); refine box_event ?hg (N := 12) ?hd (cs := #[.int .i64 0, .int .u32 0, .int .u32 0, .int .u32 0, .int .u32 0]) (t := 48) ?hr ?_; (case hd => rfl); (case hg => rfl); (case hr => first | (go_simp; done) | (go_simp; rfl)); intro gb129 hg w13 hbox hb; have n0_ := Aside0.mk (below_step (by repeat (first | (with_reducible first | exact HB.out | apply below_alloc | apply pw_below_drewN | apply below_drew1) | exact HB.out)) hb); have n1_ := Aside0.mk (hbox); have n2_ := Aside0.mk ((by rw [hg]; exact (below_size (by repeat (first | (with_reducible first | exact HB.out | apply below_alloc | apply pw_below_drewN | apply below_drew1) | exact HB.out))) : w.heap.size ≤ gb129)); have n3_ := Aside0.mk ((by rw [hg]; exact (below_size (by repeat (first | (with_reducible first | exact HB.out | apply below_alloc | apply pw_below_drewN | apply below_drew1) | exact HB.out))) : w.heap.size ≤ gb129)); clear HB; have HB := n0_; have BK129 := n1_; have GW129 := n2_; have GE129 := n3_; clear n0_ n1_ n2_ n3_; clear hb hbox hg) | ((with_reducible refine gate_callee (f := 22) rfl ?_); refine goesL_ (some 22) rfl rfl Try.func22 (by kernel_rfl) rfl #[.int .u32 a0, .int .i64 a1] rfl (by (try simp only [List.map_toArray, List.map_cons, List.map_nil]); first | done | rfl | (simp only [List.length_drop, List.length_take]; rfl)) ?_; (with_reducible refine (walk_Entries.calls a0 a1 t130 _ A7.out).mono ?_); rintro e w14 ⟨rfl, hb⟩; refine ⟨_, rfl, ?_⟩; have n0_ := Aside0.mk (blk_below (g := gb129) (o := .cells #[.int .i64 0, .int .u32 0, .int .u32 0, .int .u32 0, .int .u32 0] 48 (0, 0)) (by (with_reducible repeat (first | refine blk_drewN ?_ _ | refine blk_drew ?_ | refine blk_alloc ?_ _)); exact BK129.out) hb); have n1_ := Aside0.mk (below_step (by repeat (first | (with_reducible first | exact HB.out | apply below_alloc | apply pw_below_drewN | apply below_drew1 | refine below_set ?_ GE129.out) | exact HB.out)) hb); clear BK129; clear HB; have BK129 := n0_; have HB := n1_; clear n0_ n1_; (try clear hb); (try clear hb2); (try clear hk); (try clear hi)) | ((with_reducible refine gate_callee (f := 44) rfl ?_); refine goesL_ (some 27) rfl rfl Try.func44 (by kernel_rfl) rfl #[.int .u32 a0, .int .i64 0, .int .i64 22] rfl (by (try simp only [List.map_toArray, List.map_cons, List.map_nil]); first | done | rfl | (simp only [List.length_drop, List.length_take]; rfl)) ?_; (with_reducible refine (word_Bits.calls a0 0 22 t131 _ A12.out).mono ?_); rintro e w15 ⟨rfl, hb⟩; refine ⟨_, rfl, ?_⟩; have n0_ := Aside0.mk (blk_below (g := gb129) (o := .cells #[.int .i64 0, .int .u32 0, .int .u32 0, .int .u32 0, .int .u32 0] 48 (0, 0)) (by (with_reducible repeat (first | refine blk_drewN ?_ _ | refine blk_drew ?_ | refine blk_alloc ?_ _)); exact BK129.out) hb); have n1_ := Aside0.mk (below_step (by repeat (first | (with_reducible first | exact HB.out | apply below_alloc | apply pw_below_drewN | apply below_drew1 | refine below_set ?_ GE129.out) | exact HB.out)) hb); clear BK129; clear HB; have BK129 := n0_; have HB := n1_; clear n0_ n1_; (try clear hb); (try clear hb2); (try clear hk); (try clear hi)))
    go_loopg [14, 15] k (fun kq v14 v15 w' => ∃ (x14_1 : Int) (x15_1 : Int) (x130000_1 : Int) (x130001_1 : Int) (x130002_1 : Int) (x130003_1 : Int) (x130004_1 : Int), v14 = .int .u32 x14_1 ∧ v15 = .int .i64 x15_1 ∧ Aside0 (walk_next.l0 kq a1 a2 a3 a4 l5 x14_1 x15_1 = some (r1, r2, r3, r4, r5, r6)) ∧ Aside0 (kq ≤ k) ∧ Aside0 (w'.heap[gb129]? = some (.cells #[.int .i64 x130000_1, .int .u32 x130001_1, .int .u32 x130002_1, .int .u32 x130003_1, .int .u32 x130004_1] 48 (0, 0))) ∧ Aside0 (Below w.heap.size w w'))
    case atStart => exact ⟨(t131), (1), (0), (0), (0), (0), (0), (by first | rfl | (simp; done) | (simp [*]; done)), (by first | rfl | (simp; done) | (simp [*]; done)), H', ⟨Nat.le_refl _⟩, ⟨by (with_reducible repeat (first | refine blk_drewN ?_ _ | refine blk_drew ?_ | refine blk_alloc ?_ _)); exact BK129.out⟩, ⟨by repeat (first | (with_reducible first | exact HB.out | apply below_alloc | apply pw_below_drewN | apply below_drew1 | refine below_set ?_ GE129.out) | exact HB.out)⟩⟩
    case round =>
      clear H'
      try clear c2
      try clear p2
      try clear c4
      try clear c5
      try clear c8
      try clear c8b0
      try clear c8b1
      try clear hcz11_0
      try clear hcz11_1
      try clear hcz11_2
      try clear hcz11_3
      try clear hcz11_4
      try clear hfz11_0
      try clear hfz11_1
      try clear hfz11_2
      try clear hfz11_3
      try clear hfz11_4
      obtain ⟨x14_1, x15_1, x130000_1, x130001_1, x130002_1, x130003_1, x130004_1, rfl, rfl, HA, HK1, BK129, HB⟩ := hrel
      cases gk with
      | zero => exact absurd HA.out (by simp [walk_next.l0])
      | succ k1 =>
        have H := HA.out
        clear HA
        simp only [walk_next.l0] at H
        by_cases c16 : x15_1 ≥ 0
        · rw [if_pos c16] at H
          have c16b0 : decide (0 ≤ x15_1) = true := decide_eq_true c16
          clear c16
          replace H := Option.bind_eq_some_iff.mp H
          obtain ⟨t137, A170, H⟩ := H
          replace H : (if ((IntKind.u64.wrap ((IntKind.u64.wrap ((IntKind.u64.wrap (x14_1)) * 4096)) + (IntKind.u64.wrap (4 * (IntKind.u64.wrap (t137)))))) / 4294967296) = 0 then (walk_next.j1 k1 a1 a2 a3 a4 l5 x15_1 (wrap64 (1 - x15_1)) (IntKind.u64.wrap ((IntKind.u64.wrap ((IntKind.u64.wrap (x14_1)) * 4096)) + (IntKind.u64.wrap (4 * (IntKind.u64.wrap (t137)))))) (decide ((IntKind.u64.wrap ((IntKind.u64.wrap ((IntKind.u64.wrap ((IntKind.u64.wrap (x14_1)) * 4096)) + (IntKind.u64.wrap (4 * (IntKind.u64.wrap (t137)))))) + 4)) > (IntKind.u64.wrap (mx a4 0))))) else (walk_next.j1 k1 a1 a2 a3 a4 l5 x15_1 (wrap64 (1 - x15_1)) (IntKind.u64.wrap ((IntKind.u64.wrap ((IntKind.u64.wrap (x14_1)) * 4096)) + (IntKind.u64.wrap (4 * (IntKind.u64.wrap (t137)))))) true)) = some (r1, r2, r3, r4, r5, r6) := H
          have A17 := Aside0.mk A170
          clear A170
          have HC18 := Aside0.mk H
          clear H
          go_upto_region 10 with (first | ((with_reducible refine gate_callee (f := 44) rfl ?_); refine goesL_ (some 42) rfl rfl Try.func44 (by kernel_rfl) rfl #[.int .u32 a2, .int .i64 (wrap64 (12 + (wrap64 (10 * x15_1)))), .int .i64 10] rfl (by (try simp only [List.map_toArray, List.map_cons, List.map_nil]); first | done | rfl | (simp only [List.length_drop, List.length_take]; rfl)) ?_; (with_reducible refine (word_Bits.calls a2 (wrap64 (12 + (wrap64 (10 * x15_1)))) 10 t137 _ A17.out).mono ?_); rintro e w19 ⟨rfl, hb⟩; refine ⟨_, rfl, ?_⟩; have n0_ := Aside0.mk (blk_below (g := gb129) (o := .cells #[.int .i64 x130000_1, .int .u32 x130001_1, .int .u32 x130002_1, .int .u32 x130003_1, .int .u32 x130004_1] 48 (0, 0)) (by (with_reducible repeat (first | refine blk_drewN ?_ _ | refine blk_drew ?_ | refine blk_alloc ?_ _)); exact BK129.out) hb); have n1_ := Aside0.mk (below_step (by repeat (first | (with_reducible first | exact HB.out | apply below_alloc | apply pw_below_drewN | apply below_drew1 | refine below_set ?_ GE129.out) | exact HB.out)) hb); clear BK129; clear HB; have BK129 := n0_; have HB := n1_; clear n0_ n1_; (try clear hb); (try clear hb2); (try clear hk); (try clear hi)))
          (try simp only [Act.put, List.setIfInBounds_toArray, List.set_cons_zero, List.set_cons_succ])
          go_cut [56] (fun v56 wc => ∃ (kq : Nat) (x56_17 : Bool), v56 = .bool x56_17 ∧ Aside0 (walk_next.j1 kq a1 a2 a3 a4 l5 x15_1 (wrap64 (1 - x15_1)) (IntKind.u64.wrap ((IntKind.u64.wrap ((IntKind.u64.wrap (x14_1)) * 4096)) + (IntKind.u64.wrap (4 * (IntKind.u64.wrap (t137)))))) x56_17 = some (r1, r2, r3, r4, r5, r6)) ∧ Aside0 (kq ≤ k1) ∧ Aside0 (wc.heap[gb129]? = some (.cells #[.int .i64 x130000_1, .int .u32 x130001_1, .int .u32 x130002_1, .int .u32 x130003_1, .int .u32 x130004_1] 48 (0, 0))) ∧ Aside0 (Below w.heap.size w wc))
          case first =>
            have H := HC18.out
            clear HC18
            by_cases c20 : ((IntKind.u64.wrap ((IntKind.u64.wrap ((IntKind.u64.wrap (x14_1)) * 4096)) + (IntKind.u64.wrap (4 * (IntKind.u64.wrap (t137)))))) / 4294967296) = 0
            · rw [if_pos c20] at H
              have c20b0 : (((IntKind.u64.wrap ((IntKind.u64.wrap ((IntKind.u64.wrap (x14_1)) * 4096)) + (IntKind.u64.wrap (4 * (IntKind.u64.wrap (t137)))))) / 4294967296) == 0) = true := beq_iff_eq.mpr c20
              have c20b1 : (((IntKind.u64.wrap ((IntKind.u64.wrap ((IntKind.u64.wrap (x14_1)) * 4096)) + (IntKind.u64.wrap (4 * (IntKind.u64.wrap (t137)))))) / 4294967296) != 0) = false := bne_eq_false_iff_eq.mpr c20
              clear c20
              (first | rw [c20b0] | (simp only [i64_w, i32_w]; rw [c20b0]) | skip)
              obtain ⟨ji21, hji21⟩ : ∃ j_ : Int, (mx a4 0) = j_ := ⟨_, rfl⟩
              replace H : (walk_next.j1 k1 a1 a2 a3 a4 l5 x15_1 (wrap64 (1 - x15_1)) (IntKind.u64.wrap ((IntKind.u64.wrap ((IntKind.u64.wrap (x14_1)) * 4096)) + (IntKind.u64.wrap (4 * (IntKind.u64.wrap (t137)))))) (decide ((IntKind.u64.wrap ((IntKind.u64.wrap ((IntKind.u64.wrap ((IntKind.u64.wrap (x14_1)) * 4096)) + (IntKind.u64.wrap (4 * (IntKind.u64.wrap (t137)))))) + 4)) > (IntKind.u64.wrap (ji21))))) = some (r1, r2, r3, r4, r5, r6) := by first | (rw [hji21] at H; exact H) | (simp only [hji21] at H ⊢; exact H)
              have hji21_ : (if a4 < 0 then 0 else a4) = ji21 := hji21
              have H' := Aside0.mk H
              clear H
              go_wp2
              go_meet
              case rel => exact ⟨_, (decide ((IntKind.u64.wrap ((IntKind.u64.wrap ((IntKind.u64.wrap ((IntKind.u64.wrap (x14_1)) * 4096)) + (IntKind.u64.wrap (4 * (IntKind.u64.wrap (t137)))))) + 4)) > (IntKind.u64.wrap (ji21)))), (by first | rfl | (simp; done) | (simp only [← hji21] <;> (first | rfl | simp)) | (simp [*]; done)), H', ⟨by have := HK1.out; first | omega | exact Nat.le_refl _⟩, ⟨by (with_reducible repeat (first | refine blk_drewN ?_ _ | refine blk_drew ?_ | refine blk_alloc ?_ _)); exact BK129.out⟩, ⟨by repeat (first | (with_reducible first | exact HB.out | apply below_alloc | apply pw_below_drewN | apply below_drew1 | refine below_set ?_ GE129.out) | exact HB.out)⟩⟩
            · rw [if_neg c20] at H
              have c20b0 : (((IntKind.u64.wrap ((IntKind.u64.wrap ((IntKind.u64.wrap (x14_1)) * 4096)) + (IntKind.u64.wrap (4 * (IntKind.u64.wrap (t137)))))) / 4294967296) == 0) = false := beq_eq_false_iff_ne.mpr c20
              have c20b1 : (((IntKind.u64.wrap ((IntKind.u64.wrap ((IntKind.u64.wrap (x14_1)) * 4096)) + (IntKind.u64.wrap (4 * (IntKind.u64.wrap (t137)))))) / 4294967296) != 0) = true := bne_iff_ne.mpr c20
              (first | rw [c20b0] | (simp only [i64_w, i32_w]; rw [c20b0]) | skip)
              have H' := Aside0.mk H
              clear H
              go_wp2
              go_meet
              case rel => exact ⟨_, (true), (by first | rfl | (simp; done) | (simp [*]; done)), H', ⟨by have := HK1.out; first | omega | exact Nat.le_refl _⟩, ⟨by (with_reducible repeat (first | refine blk_drewN ?_ _ | refine blk_drew ?_ | refine blk_alloc ?_ _)); exact BK129.out⟩, ⟨by repeat (first | (with_reducible first | exact HB.out | apply below_alloc | apply pw_below_drewN | apply below_drew1 | refine below_set ?_ GE129.out) | exact HB.out)⟩⟩
          case rest =>
            clear HC18
            try clear c1
            try clear c2
            try clear p2
            try clear c4
            try clear c5
            try clear p6
            try clear c8
            try clear c8b0
            try clear c8b1
            try clear c16
            try clear c16b0
            try clear c20
            try clear c20b0
            try clear c20b1
            try clear hcz11_0
            try clear hcz11_1
            try clear hcz11_2
            try clear hcz11_3
            try clear hcz11_4
            try clear hfz11_0
            try clear hfz11_1
            try clear hfz11_2
            try clear hfz11_3
            try clear hfz11_4
            try clear p2
            obtain ⟨kq, x56_17, rfl, HA, HJ17, BK129, HB⟩ := hcut
            cases kq with
            | zero => exact absurd HA.out (by simp [walk_next.j1])
            | succ kj17 =>
              have H := HA.out
              clear HA
              simp only [walk_next.j1] at H
              by_cases c22 : x56_17 = true
              · subst c22
                have H1 : ((walk_fault.f a3 false).bind fun bt138 => (some (bt138.1, bt138.2.1, bt138.2.2.1, bt138.2.2.2.1, bt138.2.2.2.2, (wrap64 (1 - x15_1))))) = some (r1, r2, r3, r4, r5, r6) := by rw [if_pos rfl] at H; exact H
                clear H
                have H := H1
                clear H1
                replace H := Option.bind_eq_some_iff.mp H
                obtain ⟨⟨t138, t139, t140, t141, t142⟩, A230, H⟩ := H
                replace H : (some (t138, t139, t140, t141, t142, (wrap64 (1 - x15_1)))) = some (r1, r2, r3, r4, r5, r6) := H
                have A23 := Aside0.mk A230
                clear A230
                simp only [Option.some.injEq, Prod.mk.injEq] at H
                obtain ⟨rfl, rfl, rfl, rfl, rfl, rfl⟩ := H
                go_wp2_with (first | ((with_reducible refine gate_callee (f := 43) rfl ?_); refine goesL_ (some 58) rfl rfl Try.func43 (by kernel_rfl) rfl #[.int .i64 a3, .bool false] rfl (by (try simp only [List.map_toArray, List.map_cons, List.map_nil]); first | done | rfl | (simp only [List.length_drop, List.length_take]; rfl)) ?_; (with_reducible refine (walk_fault.calls a3 false t138 t139 t140 t141 t142 _ A23.out).mono ?_); rintro e w24 ⟨rfl, hb⟩; refine ⟨_, rfl, ?_⟩; have n0_ := Aside0.mk (blk_below (g := gb129) (o := .cells #[.int .i64 x130000_1, .int .u32 x130001_1, .int .u32 x130002_1, .int .u32 x130003_1, .int .u32 x130004_1] 48 (0, 0)) (by (with_reducible repeat (first | refine blk_drewN ?_ _ | refine blk_drew ?_ | refine blk_alloc ?_ _)); exact BK129.out) hb); have n1_ := Aside0.mk (below_step (by repeat (first | (with_reducible first | exact HB.out | apply below_alloc | apply pw_below_drewN | apply below_drew1 | refine below_set ?_ GE129.out) | exact HB.out)) hb); clear BK129; clear HB; have BK129 := n0_; have HB := n1_; clear n0_ n1_; (try clear hb); (try clear hb2); (try clear hk); (try clear hi); have hcz25_0 : w24.cell? ⟨gb129, 0, none⟩ = some (.int .i64 x130000_1) := (blk_cell BK129.out 0).trans rfl; have hcz25_1 : w24.cell? ⟨gb129, 1, none⟩ = some (.int .u32 x130001_1) := (blk_cell BK129.out 1).trans rfl; have hcz25_2 : w24.cell? ⟨gb129, 2, none⟩ = some (.int .u32 x130002_1) := (blk_cell BK129.out 2).trans rfl; have hcz25_3 : w24.cell? ⟨gb129, 3, none⟩ = some (.int .u32 x130003_1) := (blk_cell BK129.out 3).trans rfl; have hcz25_4 : w24.cell? ⟨gb129, 4, none⟩ = some (.int .u32 x130004_1) := (blk_cell BK129.out 4).trans rfl; have hfz25_0 := blk_frozen BK129.out 0; have hfz25_1 := blk_frozen BK129.out 1; have hfz25_2 := blk_frozen BK129.out 2; have hfz25_3 := blk_frozen BK129.out 3; have hfz25_4 := blk_frozen BK129.out 4))
                refine bodyPost_ret (results_ct rfl _ _ gb129 48 #[.int .i64 t138, .int .u32 t139, .int .u32 t140, .int .u32 t141, .int .u32 t142] (0, 0) _ rfl (by (with_reducible repeat (first | refine blk_drewN ?_ _ | refine blk_drew ?_ | refine blk_alloc ?_ _)); refine blk_put (cs := #[.int .i64 t138, .int .u32 t139, .int .u32 t140, .int .u32 t141, .int .u32 x130004_1]) ?_ 4 _ rfl; (with_reducible repeat (first | refine blk_drewN ?_ _ | refine blk_drew ?_ | refine blk_alloc ?_ _)); refine blk_put (cs := #[.int .i64 t138, .int .u32 t139, .int .u32 t140, .int .u32 x130003_1, .int .u32 x130004_1]) ?_ 3 _ rfl; (with_reducible repeat (first | refine blk_drewN ?_ _ | refine blk_drew ?_ | refine blk_alloc ?_ _)); refine blk_put (cs := #[.int .i64 t138, .int .u32 t139, .int .u32 x130002_1, .int .u32 x130003_1, .int .u32 x130004_1]) ?_ 2 _ rfl; (with_reducible repeat (first | refine blk_drewN ?_ _ | refine blk_drew ?_ | refine blk_alloc ?_ _)); refine blk_put (cs := #[.int .i64 t138, .int .u32 x130001_1, .int .u32 x130002_1, .int .u32 x130003_1, .int .u32 x130004_1]) ?_ 1 _ rfl; (with_reducible repeat (first | refine blk_drewN ?_ _ | refine blk_drew ?_ | refine blk_alloc ?_ _)); refine blk_put (cs := #[.int .i64 x130000_1, .int .u32 x130001_1, .int .u32 x130002_1, .int .u32 x130003_1, .int .u32 x130004_1]) ?_ 0 _ rfl; (with_reducible repeat (first | refine blk_drewN ?_ _ | refine blk_drew ?_ | refine blk_alloc ?_ _)); exact BK129.out) Try.underlying48 rfl (by kernel_rfl)) rfl ?_
                exact ⟨by first | rfl | (simp [errW_none, errW_some] <;> rfl) | (simp [*, errW_none, errW_some] <;> rfl), by repeat (first | (with_reducible first | exact HB.out | apply below_alloc | apply pw_below_drewN | apply below_drew1 | refine below_set ?_ GE129.out) | exact HB.out)⟩
              · replace c22 := Bool.eq_false_iff.mpr c22
                subst c22
                have H1 : (if (wrap64 (1 - x15_1)) = (l5.length : Int) then (some (3, 0, ((IntKind.u64.wrap ((IntKind.u64.wrap ((IntKind.u64.wrap (x14_1)) * 4096)) + (IntKind.u64.wrap (4 * (IntKind.u64.wrap (t137))))))) % 4294967296, 0, 0, (wrap64 (1 - x15_1)))) else (if 0 ≤ (wrap64 (1 - x15_1)) then (if (wrap64 (1 - x15_1)) < (l5.length : Int) then (if ((rd_T52 l5 (wrap64 (1 - x15_1))).f0) = (((IntKind.u64.wrap ((IntKind.u64.wrap ((IntKind.u64.wrap (x14_1)) * 4096)) + (IntKind.u64.wrap (4 * (IntKind.u64.wrap (t137))))))) % 4294967296) then ((pte_Bad.f ((rd_T52 l5 (wrap64 (1 - x15_1))).f1)).bind fun t145 => (walk_next.j2 kj17 a1 a2 a3 a4 l5 x15_1 (wrap64 (1 - x15_1)) (IntKind.u64.wrap ((IntKind.u64.wrap ((IntKind.u64.wrap (x14_1)) * 4096)) + (IntKind.u64.wrap (4 * (IntKind.u64.wrap (t137)))))) ((rd_T52 l5 (wrap64 (1 - x15_1))).f1) t145)) else (walk_next.j2 kj17 a1 a2 a3 a4 l5 x15_1 (wrap64 (1 - x15_1)) (IntKind.u64.wrap ((IntKind.u64.wrap ((IntKind.u64.wrap (x14_1)) * 4096)) + (IntKind.u64.wrap (4 * (IntKind.u64.wrap (t137)))))) ((rd_T52 l5 (wrap64 (1 - x15_1))).f1) true)) else (none)) else (none))) = some (r1, r2, r3, r4, r5, r6) := by rw [if_neg (show ¬ (false = true) by decide)] at H; exact H
                clear H
                have H := H1
                clear H1
                by_cases c26 : (wrap64 (1 - x15_1)) = (l5.length : Int)
                · rw [if_pos c26] at H
                  have c26b0 : ((wrap64 (1 - x15_1)) == (l5.length : Int)) = true := beq_iff_eq.mpr c26
                  have c26b1 : ((wrap64 (1 - x15_1)) != (l5.length : Int)) = false := bne_eq_false_iff_eq.mpr c26
                  clear c26
                  simp only [Option.some.injEq, Prod.mk.injEq] at H
                  obtain ⟨rfl, rfl, rfl, rfl, rfl, rfl⟩ := H
                  have hcz27_0 : wc.cell? ⟨gb129, 0, none⟩ = some (.int .i64 x130000_1) := (blk_cell BK129.out 0).trans rfl
                  have hcz27_1 : wc.cell? ⟨gb129, 1, none⟩ = some (.int .u32 x130001_1) := (blk_cell BK129.out 1).trans rfl
                  have hcz27_2 : wc.cell? ⟨gb129, 2, none⟩ = some (.int .u32 x130002_1) := (blk_cell BK129.out 2).trans rfl
                  have hcz27_3 : wc.cell? ⟨gb129, 3, none⟩ = some (.int .u32 x130003_1) := (blk_cell BK129.out 3).trans rfl
                  have hcz27_4 : wc.cell? ⟨gb129, 4, none⟩ = some (.int .u32 x130004_1) := (blk_cell BK129.out 4).trans rfl
                  have hfz27_0 := blk_frozen BK129.out 0
                  have hfz27_1 := blk_frozen BK129.out 1
                  have hfz27_2 := blk_frozen BK129.out 2
                  have hfz27_3 := blk_frozen BK129.out 3
                  have hfz27_4 := blk_frozen BK129.out 4
                  go_wp2
                  refine bodyPost_ret (results_ct rfl _ _ gb129 48 #[.int .i64 3, .int .u32 0, .int .u32 (((IntKind.u64.wrap ((IntKind.u64.wrap ((IntKind.u64.wrap (x14_1)) * 4096)) + (IntKind.u64.wrap (4 * (IntKind.u64.wrap (t137))))))) % 4294967296), .int .u32 0, .int .u32 0] (0, 0) _ rfl (by (with_reducible repeat (first | refine blk_drewN ?_ _ | refine blk_drew ?_ | refine blk_alloc ?_ _)); refine blk_put (cs := #[.int .i64 3, .int .u32 0, .int .u32 (((IntKind.u64.wrap ((IntKind.u64.wrap ((IntKind.u64.wrap (x14_1)) * 4096)) + (IntKind.u64.wrap (4 * (IntKind.u64.wrap (t137))))))) % 4294967296), .int .u32 0, .int .u32 x130004_1]) ?_ 4 _ rfl; (with_reducible repeat (first | refine blk_drewN ?_ _ | refine blk_drew ?_ | refine blk_alloc ?_ _)); refine blk_put (cs := #[.int .i64 3, .int .u32 0, .int .u32 (((IntKind.u64.wrap ((IntKind.u64.wrap ((IntKind.u64.wrap (x14_1)) * 4096)) + (IntKind.u64.wrap (4 * (IntKind.u64.wrap (t137))))))) % 4294967296), .int .u32 x130003_1, .int .u32 x130004_1]) ?_ 3 _ rfl; (with_reducible repeat (first | refine blk_drewN ?_ _ | refine blk_drew ?_ | refine blk_alloc ?_ _)); refine blk_put (cs := #[.int .i64 3, .int .u32 0, .int .u32 x130002_1, .int .u32 x130003_1, .int .u32 x130004_1]) ?_ 2 _ rfl; (with_reducible repeat (first | refine blk_drewN ?_ _ | refine blk_drew ?_ | refine blk_alloc ?_ _)); refine blk_put (cs := #[.int .i64 3, .int .u32 x130001_1, .int .u32 x130002_1, .int .u32 x130003_1, .int .u32 x130004_1]) ?_ 1 _ rfl; (with_reducible repeat (first | refine blk_drewN ?_ _ | refine blk_drew ?_ | refine blk_alloc ?_ _)); refine blk_put (cs := #[.int .i64 x130000_1, .int .u32 x130001_1, .int .u32 x130002_1, .int .u32 x130003_1, .int .u32 x130004_1]) ?_ 0 _ rfl; (with_reducible repeat (first | refine blk_drewN ?_ _ | refine blk_drew ?_ | refine blk_alloc ?_ _)); exact BK129.out) Try.underlying48 rfl (by kernel_rfl)) rfl ?_
                  exact ⟨by first | rfl | (simp [errW_none, errW_some] <;> rfl) | (simp [*, errW_none, errW_some] <;> rfl), by repeat (first | (with_reducible first | exact HB.out | apply below_alloc | apply pw_below_drewN | apply below_drew1 | refine below_set ?_ GE129.out) | exact HB.out)⟩
                · rw [if_neg c26] at H
                  have c26b0 : ((wrap64 (1 - x15_1)) == (l5.length : Int)) = false := beq_eq_false_iff_ne.mpr c26
                  have c26b1 : ((wrap64 (1 - x15_1)) != (l5.length : Int)) = true := bne_iff_ne.mpr c26
                  obtain ⟨ji28, hji28⟩ : ∃ j_ : Int, (wrap64 (1 - x15_1)) = j_ := ⟨_, rfl⟩
                  replace H : (if 0 ≤ (ji28) then (if (ji28) < (l5.length : Int) then (if ((rd_T52 l5 (ji28)).f0) = (((IntKind.u64.wrap ((IntKind.u64.wrap ((IntKind.u64.wrap (x14_1)) * 4096)) + (IntKind.u64.wrap (4 * (IntKind.u64.wrap (t137))))))) % 4294967296) then ((pte_Bad.f ((rd_T52 l5 (ji28)).f1)).bind fun t145 => (walk_next.j2 kj17 a1 a2 a3 a4 l5 x15_1 (ji28) (IntKind.u64.wrap ((IntKind.u64.wrap ((IntKind.u64.wrap (x14_1)) * 4096)) + (IntKind.u64.wrap (4 * (IntKind.u64.wrap (t137)))))) ((rd_T52 l5 (ji28)).f1) t145)) else (walk_next.j2 kj17 a1 a2 a3 a4 l5 x15_1 (ji28) (IntKind.u64.wrap ((IntKind.u64.wrap ((IntKind.u64.wrap (x14_1)) * 4096)) + (IntKind.u64.wrap (4 * (IntKind.u64.wrap (t137)))))) ((rd_T52 l5 (ji28)).f1) true)) else (none)) else (none)) = some (r1, r2, r3, r4, r5, r6) := by first | (rw [hji28] at H; exact H) | (simp only [hji28] at H ⊢; exact H)
                  (try rw [hji28] at c26b0)
                  (try rw [hji28] at c26b1)
                  have hji28w : (IntKind.i64.wrap (1 - x15_1)) = ji28 := (i64_w _).trans hji28
                  by_cases c29 : 0 ≤ (ji28)
                  · rw [if_pos c29] at H
                    have c29b0 : decide (0 ≤ (ji28)) = true := decide_eq_true c29
                    clear c29
                    by_cases c30 : (ji28) < (l5.length : Int)
                    · rw [if_pos c30] at H
                      have c30b0 : decide ((ji28) < (l5.length : Int)) = true := decide_eq_true c30
                      clear c30
                      have HC31 := Aside0.mk H
                      clear H
                      have p143 : 0 ≤ ((ji28) : Int) := of_decide_eq_true (by first | (with_reducible assumption) | assumption)
                      have q143 : (ji28) < (l5.length : Int) := of_decide_eq_true (by first | (with_reducible assumption) | assumption)
                      obtain ⟨ad143, e143, hx143_0, hx143_1, hx143_2, hx143_3, hx143_4⟩ := at_T52 HR5.out (ji28) p143 q143
                      cases e143
                      replace hx143_0 := (HB.out.cell (World.block_lt_of_cell? w _ hx143_0)).trans hx143_0
                      replace hx143_1 := (HB.out.cell (World.block_lt_of_cell? w _ hx143_1)).trans hx143_1
                      replace hx143_2 := (HB.out.cell (World.block_lt_of_cell? w _ hx143_2)).trans hx143_2
                      replace hx143_3 := (HB.out.cell (World.block_lt_of_cell? w _ hx143_3)).trans hx143_3
                      replace hx143_4 := (HB.out.cell (World.block_lt_of_cell? w _ hx143_4)).trans hx143_4
                      replace p143 := eq_true p143
                      replace q143 := eq_true q143
                      go_upto_region 15 with (fail)
                      (try rw [hji28])
                      go_cut [84] (fun v84 wc => ∃ (kq : Nat) (x84_30 : Bool), v84 = .bool x84_30 ∧ Aside0 (walk_next.j2 kq a1 a2 a3 a4 l5 x15_1 (ji28) (IntKind.u64.wrap ((IntKind.u64.wrap ((IntKind.u64.wrap (x14_1)) * 4096)) + (IntKind.u64.wrap (4 * (IntKind.u64.wrap (t137)))))) ((rd_T52 l5 (ji28)).f1) x84_30 = some (r1, r2, r3, r4, r5, r6)) ∧ Aside0 (kq ≤ kj17) ∧ Aside0 (wc.heap[gb129]? = some (.cells #[.int .i64 x130000_1, .int .u32 x130001_1, .int .u32 x130002_1, .int .u32 x130003_1, .int .u32 x130004_1] 48 (0, 0))) ∧ Aside0 (Below w.heap.size w wc))
                      case first =>
                        have H := HC31.out
                        clear HC31
                        by_cases c32 : ((rd_T52 l5 (ji28)).f0) = (((IntKind.u64.wrap ((IntKind.u64.wrap ((IntKind.u64.wrap (x14_1)) * 4096)) + (IntKind.u64.wrap (4 * (IntKind.u64.wrap (t137))))))) % 4294967296)
                        · rw [if_pos c32] at H
                          have c32b0 : (((rd_T52 l5 (ji28)).f0) == (((IntKind.u64.wrap ((IntKind.u64.wrap ((IntKind.u64.wrap (x14_1)) * 4096)) + (IntKind.u64.wrap (4 * (IntKind.u64.wrap (t137))))))) % 4294967296)) = true := beq_iff_eq.mpr c32
                          have c32b1 : (((rd_T52 l5 (ji28)).f0) != (((IntKind.u64.wrap ((IntKind.u64.wrap ((IntKind.u64.wrap (x14_1)) * 4096)) + (IntKind.u64.wrap (4 * (IntKind.u64.wrap (t137))))))) % 4294967296)) = false := bne_eq_false_iff_eq.mpr c32
                          clear c32
                          (first | rw [c32b0] | (simp only [i64_w, i32_w]; rw [c32b0]) | skip)
                          replace H := Option.bind_eq_some_iff.mp H
                          obtain ⟨t145, A330, H⟩ := H
                          replace H : (walk_next.j2 kj17 a1 a2 a3 a4 l5 x15_1 (ji28) (IntKind.u64.wrap ((IntKind.u64.wrap ((IntKind.u64.wrap (x14_1)) * 4096)) + (IntKind.u64.wrap (4 * (IntKind.u64.wrap (t137)))))) ((rd_T52 l5 (ji28)).f1) t145) = some (r1, r2, r3, r4, r5, r6) := H
                          have A33 := Aside0.mk A330
                          clear A330
                          have H' := Aside0.mk H
                          clear H
                          have p144 : 0 ≤ ((ji28) : Int) := of_decide_eq_true (by first | (with_reducible assumption) | assumption)
                          have q144 : (ji28) < (l5.length : Int) := of_decide_eq_true (by first | (with_reducible assumption) | assumption)
                          obtain ⟨ad144, e144, hx144_0, hx144_1, hx144_2, hx144_3, hx144_4⟩ := at_T52 HR5.out (ji28) p144 q144
                          obtain rfl : ad143 = ad144 := (by injection e144)
                          replace hx144_0 := (HB.out.cell (World.block_lt_of_cell? w _ hx144_0)).trans hx144_0
                          replace hx144_1 := (HB.out.cell (World.block_lt_of_cell? w _ hx144_1)).trans hx144_1
                          replace hx144_2 := (HB.out.cell (World.block_lt_of_cell? w _ hx144_2)).trans hx144_2
                          replace hx144_3 := (HB.out.cell (World.block_lt_of_cell? w _ hx144_3)).trans hx144_3
                          replace hx144_4 := (HB.out.cell (World.block_lt_of_cell? w _ hx144_4)).trans hx144_4
                          replace p144 := eq_true p144
                          replace q144 := eq_true q144
                          go_wp2_with (first | (go_at_call 45; (with_reducible refine (pte_Bad.calls ((rd_T52 l5 (ji28)).f1) t145 _ A33.out).mono ?_); rintro e w' ⟨rfl, ⟨nd, rfl⟩⟩))
                          go_meet
                          case rel => exact ⟨_, (t145), (by first | rfl | (simp; done) | (simp [*]; done)), H', ⟨by have := HK1.out; have := HJ17.out; first | omega | exact Nat.le_refl _⟩, ⟨by (with_reducible repeat (first | refine blk_drewN ?_ _ | refine blk_drew ?_ | refine blk_alloc ?_ _)); exact BK129.out⟩, ⟨by repeat (first | (with_reducible first | exact HB.out | apply below_alloc | apply pw_below_drewN | apply below_drew1 | refine below_set ?_ GE129.out) | exact HB.out)⟩⟩
                        · rw [if_neg c32] at H
                          have c32b0 : (((rd_T52 l5 (ji28)).f0) == (((IntKind.u64.wrap ((IntKind.u64.wrap ((IntKind.u64.wrap (x14_1)) * 4096)) + (IntKind.u64.wrap (4 * (IntKind.u64.wrap (t137))))))) % 4294967296)) = false := beq_eq_false_iff_ne.mpr c32
                          have c32b1 : (((rd_T52 l5 (ji28)).f0) != (((IntKind.u64.wrap ((IntKind.u64.wrap ((IntKind.u64.wrap (x14_1)) * 4096)) + (IntKind.u64.wrap (4 * (IntKind.u64.wrap (t137))))))) % 4294967296)) = true := bne_iff_ne.mpr c32
                          (first | rw [c32b0] | (simp only [i64_w, i32_w]; rw [c32b0]) | skip)
                          have H' := Aside0.mk H
                          clear H
                          have p144 : 0 ≤ ((ji28) : Int) := of_decide_eq_true (by first | (with_reducible assumption) | assumption)
                          have q144 : (ji28) < (l5.length : Int) := of_decide_eq_true (by first | (with_reducible assumption) | assumption)
                          obtain ⟨ad144, e144, hx144_0, hx144_1, hx144_2, hx144_3, hx144_4⟩ := at_T52 HR5.out (ji28) p144 q144
                          obtain rfl : ad143 = ad144 := (by injection e144)
                          replace hx144_0 := (HB.out.cell (World.block_lt_of_cell? w _ hx144_0)).trans hx144_0
                          replace hx144_1 := (HB.out.cell (World.block_lt_of_cell? w _ hx144_1)).trans hx144_1
                          replace hx144_2 := (HB.out.cell (World.block_lt_of_cell? w _ hx144_2)).trans hx144_2
                          replace hx144_3 := (HB.out.cell (World.block_lt_of_cell? w _ hx144_3)).trans hx144_3
                          replace hx144_4 := (HB.out.cell (World.block_lt_of_cell? w _ hx144_4)).trans hx144_4
                          replace p144 := eq_true p144
                          replace q144 := eq_true q144
                          go_wp2
                          go_meet
                          case rel => exact ⟨_, (true), (by first | rfl | (simp; done) | (simp [*]; done)), H', ⟨by have := HK1.out; have := HJ17.out; first | omega | exact Nat.le_refl _⟩, ⟨by (with_reducible repeat (first | refine blk_drewN ?_ _ | refine blk_drew ?_ | refine blk_alloc ?_ _)); exact BK129.out⟩, ⟨by repeat (first | (with_reducible first | exact HB.out | apply below_alloc | apply pw_below_drewN | apply below_drew1 | refine below_set ?_ GE129.out) | exact HB.out)⟩⟩
                      case rest =>
                        clear HC31
                        try clear c1
                        try clear p1
                        try clear q1
                        try clear hx1
                        try clear c2
                        try clear p2
                        try clear c3
                        try clear c4
                        try clear c5
                        try clear p6
                        try clear c8
                        try clear c8b0
                        try clear c8b1
                        try clear p14
                        try clear q14
                        try clear hx14
                        try clear c16
                        try clear c16b0
                        try clear c20
                        try clear c20b0
                        try clear c20b1
                        try clear c22
                        try clear c26
                        try clear c26b0
                        try clear c26b1
                        try clear c29
                        try clear c29b0
                        try clear c30
                        try clear c30b0
                        try clear c32
                        try clear c32b0
                        try clear c32b1
                        try clear hcz11_0
                        try clear hcz11_1
                        try clear hcz11_2
                        try clear hcz11_3
                        try clear hcz11_4
                        try clear hcz25_0
                        try clear hcz25_1
                        try clear hcz25_2
                        try clear hcz25_3
                        try clear hcz25_4
                        try clear hcz27_0
                        try clear hcz27_1
                        try clear hcz27_2
                        try clear hcz27_3
                        try clear hcz27_4
                        try clear hfz11_0
                        try clear hfz11_1
                        try clear hfz11_2
                        try clear hfz11_3
                        try clear hfz11_4
                        try clear hfz25_0
                        try clear hfz25_1
                        try clear hfz25_2
                        try clear hfz25_3
                        try clear hfz25_4
                        try clear hfz27_0
                        try clear hfz27_1
                        try clear hfz27_2
                        try clear hfz27_3
                        try clear hfz27_4
                        try clear hx143_0
                        try clear hx143_1
                        try clear hx143_2
                        try clear hx143_3
                        try clear hx143_4
                        try clear hx144_0
                        try clear hx144_1
                        try clear hx144_2
                        try clear hx144_3
                        try clear hx144_4
                        try clear p143
                        try clear p144
                        try clear p2
                        try clear p6
                        try clear q143
                        try clear q144
                        obtain ⟨kq, x84_30, rfl, HA, HJ30, BK129, HB⟩ := hcut
                        cases kq with
                        | zero => exact absurd HA.out (by simp [walk_next.j2])
                        | succ kj30 =>
                          have H := HA.out
                          clear HA
                          simp only [walk_next.j2] at H
                          by_cases c34 : x84_30 = true
                          · subst c34
                            have H1 : ((walk_fault.f a3 true).bind fun bt146 => (some (bt146.1, bt146.2.1, bt146.2.2.1, bt146.2.2.2.1, bt146.2.2.2.2, wrap64 ((ji28) + 1)))) = some (r1, r2, r3, r4, r5, r6) := by rw [if_pos rfl] at H; exact H
                            clear H
                            have H := H1
                            clear H1
                            replace H := Option.bind_eq_some_iff.mp H
                            obtain ⟨⟨t146, t147, t148, t149, t150⟩, A350, H⟩ := H
                            replace H : (some (t146, t147, t148, t149, t150, wrap64 ((ji28) + 1))) = some (r1, r2, r3, r4, r5, r6) := H
                            have A35 := Aside0.mk A350
                            clear A350
                            simp only [Option.some.injEq, Prod.mk.injEq] at H
                            obtain ⟨rfl, rfl, rfl, rfl, rfl, rfl⟩ := H
                            go_wp2_with (first | ((with_reducible refine gate_callee (f := 43) rfl ?_); refine goesL_ (some 86) rfl rfl Try.func43 (by kernel_rfl) rfl #[.int .i64 a3, .bool true] rfl (by (try simp only [List.map_toArray, List.map_cons, List.map_nil]); first | done | rfl | (simp only [List.length_drop, List.length_take]; rfl)) ?_; (with_reducible refine (walk_fault.calls a3 true t146 t147 t148 t149 t150 _ A35.out).mono ?_); rintro e w36 ⟨rfl, hb⟩; refine ⟨_, rfl, ?_⟩; have n0_ := Aside0.mk (blk_below (g := gb129) (o := .cells #[.int .i64 x130000_1, .int .u32 x130001_1, .int .u32 x130002_1, .int .u32 x130003_1, .int .u32 x130004_1] 48 (0, 0)) (by (with_reducible repeat (first | refine blk_drewN ?_ _ | refine blk_drew ?_ | refine blk_alloc ?_ _)); exact BK129.out) hb); have n1_ := Aside0.mk (below_step (by repeat (first | (with_reducible first | exact HB.out | apply below_alloc | apply pw_below_drewN | apply below_drew1 | refine below_set ?_ GE129.out) | exact HB.out)) hb); clear BK129; clear HB; have BK129 := n0_; have HB := n1_; clear n0_ n1_; (try clear hb); (try clear hb2); (try clear hk); (try clear hi); have hcz37_0 : w36.cell? ⟨gb129, 0, none⟩ = some (.int .i64 x130000_1) := (blk_cell BK129.out 0).trans rfl; have hcz37_1 : w36.cell? ⟨gb129, 1, none⟩ = some (.int .u32 x130001_1) := (blk_cell BK129.out 1).trans rfl; have hcz37_2 : w36.cell? ⟨gb129, 2, none⟩ = some (.int .u32 x130002_1) := (blk_cell BK129.out 2).trans rfl; have hcz37_3 : w36.cell? ⟨gb129, 3, none⟩ = some (.int .u32 x130003_1) := (blk_cell BK129.out 3).trans rfl; have hcz37_4 : w36.cell? ⟨gb129, 4, none⟩ = some (.int .u32 x130004_1) := (blk_cell BK129.out 4).trans rfl; have hfz37_0 := blk_frozen BK129.out 0; have hfz37_1 := blk_frozen BK129.out 1; have hfz37_2 := blk_frozen BK129.out 2; have hfz37_3 := blk_frozen BK129.out 3; have hfz37_4 := blk_frozen BK129.out 4))
                            refine bodyPost_ret (results_ct rfl _ _ gb129 48 #[.int .i64 t146, .int .u32 t147, .int .u32 t148, .int .u32 t149, .int .u32 t150] (0, 0) _ rfl (by (with_reducible repeat (first | refine blk_drewN ?_ _ | refine blk_drew ?_ | refine blk_alloc ?_ _)); refine blk_put (cs := #[.int .i64 t146, .int .u32 t147, .int .u32 t148, .int .u32 t149, .int .u32 x130004_1]) ?_ 4 _ rfl; (with_reducible repeat (first | refine blk_drewN ?_ _ | refine blk_drew ?_ | refine blk_alloc ?_ _)); refine blk_put (cs := #[.int .i64 t146, .int .u32 t147, .int .u32 t148, .int .u32 x130003_1, .int .u32 x130004_1]) ?_ 3 _ rfl; (with_reducible repeat (first | refine blk_drewN ?_ _ | refine blk_drew ?_ | refine blk_alloc ?_ _)); refine blk_put (cs := #[.int .i64 t146, .int .u32 t147, .int .u32 x130002_1, .int .u32 x130003_1, .int .u32 x130004_1]) ?_ 2 _ rfl; (with_reducible repeat (first | refine blk_drewN ?_ _ | refine blk_drew ?_ | refine blk_alloc ?_ _)); refine blk_put (cs := #[.int .i64 t146, .int .u32 x130001_1, .int .u32 x130002_1, .int .u32 x130003_1, .int .u32 x130004_1]) ?_ 1 _ rfl; (with_reducible repeat (first | refine blk_drewN ?_ _ | refine blk_drew ?_ | refine blk_alloc ?_ _)); refine blk_put (cs := #[.int .i64 x130000_1, .int .u32 x130001_1, .int .u32 x130002_1, .int .u32 x130003_1, .int .u32 x130004_1]) ?_ 0 _ rfl; (with_reducible repeat (first | refine blk_drewN ?_ _ | refine blk_drew ?_ | refine blk_alloc ?_ _)); exact BK129.out) Try.underlying48 rfl (by kernel_rfl)) rfl ?_
                            exact ⟨by first | rfl | (simp [errW_none, errW_some] <;> rfl) | (simp only [← hji28]; first | rfl | (simp [errW_none, errW_some] <;> rfl)) | (simp [*, errW_none, errW_some] <;> rfl), by repeat (first | (with_reducible first | exact HB.out | apply below_alloc | apply pw_below_drewN | apply below_drew1 | refine below_set ?_ GE129.out) | exact HB.out)⟩
                          · replace c34 := Bool.eq_false_iff.mpr c34
                            subst c34
                            have H1 : ((pte_Leaf.f ((rd_T52 l5 (ji28)).f1)).bind fun t151 => (if t151 = true then ((walk_leaf.f kj30 ((rd_T52 l5 (ji28)).f1) (((IntKind.u64.wrap ((IntKind.u64.wrap ((IntKind.u64.wrap (x14_1)) * 4096)) + (IntKind.u64.wrap (4 * (IntKind.u64.wrap (t137))))))) % 4294967296) a1 a2 a3 x15_1).bind fun bt152 => (some (bt152.1, bt152.2.1, bt152.2.2.1, bt152.2.2.2.1, bt152.2.2.2.2, wrap64 ((ji28) + 1)))) else ((pte_Page.f ((rd_T52 l5 (ji28)).f1)).bind fun t157 => (walk_next.l0 kj30 a1 a2 a3 a4 l5 t157 (wrap64 (x15_1 - 1)))))) = some (r1, r2, r3, r4, r5, r6) := by rw [if_neg (show ¬ (false = true) by decide)] at H; exact H
                            clear H
                            have H := H1
                            clear H1
                            replace H := Option.bind_eq_some_iff.mp H
                            obtain ⟨t151, A380, H⟩ := H
                            replace H : (if t151 = true then ((walk_leaf.f kj30 ((rd_T52 l5 (ji28)).f1) (((IntKind.u64.wrap ((IntKind.u64.wrap ((IntKind.u64.wrap (x14_1)) * 4096)) + (IntKind.u64.wrap (4 * (IntKind.u64.wrap (t137))))))) % 4294967296) a1 a2 a3 x15_1).bind fun bt152 => (some (bt152.1, bt152.2.1, bt152.2.2.1, bt152.2.2.2.1, bt152.2.2.2.2, wrap64 ((ji28) + 1)))) else ((pte_Page.f ((rd_T52 l5 (ji28)).f1)).bind fun t157 => (walk_next.l0 kj30 a1 a2 a3 a4 l5 t157 (wrap64 (x15_1 - 1))))) = some (r1, r2, r3, r4, r5, r6) := H
                            have A38 := Aside0.mk A380
                            clear A380
                            by_cases c39 : t151 = true
                            · subst c39
                              have H1 : ((walk_leaf.f kj30 ((rd_T52 l5 (ji28)).f1) (((IntKind.u64.wrap ((IntKind.u64.wrap ((IntKind.u64.wrap (x14_1)) * 4096)) + (IntKind.u64.wrap (4 * (IntKind.u64.wrap (t137))))))) % 4294967296) a1 a2 a3 x15_1).bind fun bt152 => (some (bt152.1, bt152.2.1, bt152.2.2.1, bt152.2.2.2.1, bt152.2.2.2.2, wrap64 ((ji28) + 1)))) = some (r1, r2, r3, r4, r5, r6) := by rw [if_pos rfl] at H; exact H
                              clear H
                              have H := H1
                              clear H1
                              replace H := Option.bind_eq_some_iff.mp H
                              obtain ⟨⟨t152, t153, t154, t155, t156⟩, A400, H⟩ := H
                              replace H : (some (t152, t153, t154, t155, t156, wrap64 ((ji28) + 1))) = some (r1, r2, r3, r4, r5, r6) := H
                              have A40 := Aside0.mk A400
                              clear A400
                              simp only [Option.some.injEq, Prod.mk.injEq] at H
                              obtain ⟨rfl, rfl, rfl, rfl, rfl, rfl⟩ := H
                              go_wp2_with (first | ((with_reducible refine gate_callee (f := 46) rfl ?_); refine goesL_ (some 90) rfl rfl Try.func46 (by kernel_rfl) rfl #[.int .u32 ((rd_T52 l5 (ji28)).f1)] rfl (by (try simp only [List.map_toArray, List.map_cons, List.map_nil]); first | done | (simp only [hji28]; rfl) | rfl | (simp only [List.length_drop, List.length_take]; rfl)) ?_; (with_reducible refine (pte_Leaf.calls ((rd_T52 l5 (ji28)).f1) true _ A38.out).mono ?_); rintro e w' ⟨rfl, ⟨nd, rfl⟩⟩; refine ⟨_, rfl, ?_⟩; (try (rw [drewN_self wc]; generalize hq_ : World.drewN wc _ = wc; have n0_ : Aside0 (wc.heap[gb129]? = some (.cells #[.int .i64 x130000_1, .int .u32 x130001_1, .int .u32 x130002_1, .int .u32 x130003_1, .int .u32 x130004_1] 48 (0, 0))) := ⟨by rw [← hq_]; exact (by (with_reducible repeat (first | refine blk_drewN ?_ _ | refine blk_drew ?_ | refine blk_alloc ?_ _)); exact BK129.out)⟩; have n1_ : Aside0 (Below w.heap.size w wc) := ⟨by rw [← hq_]; exact (by repeat (first | (with_reducible first | exact HB.out | apply below_alloc | apply pw_below_drewN | apply below_drew1 | refine below_set ?_ GE129.out) | exact HB.out))⟩; clear BK129 HB hq_; have BK129 := n0_; have HB := n1_; clear n0_ n1_))) | ((with_reducible refine gate_callee (f := 55) rfl ?_); refine goesL_ (some 101) rfl rfl Try.func55 (by kernel_rfl) rfl #[.int .u32 ((rd_T52 l5 (ji28)).f1), .int .u32 (((IntKind.u64.wrap ((IntKind.u64.wrap ((IntKind.u64.wrap (x14_1)) * 4096)) + (IntKind.u64.wrap (4 * (IntKind.u64.wrap (t137))))))) % 4294967296), .int .i64 a1, .int .u32 a2, .int .i64 a3, .int .i64 x15_1] rfl (by (try simp only [List.map_toArray, List.map_cons, List.map_nil]); first | done | (simp only [hji28]; rfl) | rfl | (simp only [List.length_drop, List.length_take]; rfl)) ?_; (with_reducible refine (walk_leaf.calls kj30 ((rd_T52 l5 (ji28)).f1) (((IntKind.u64.wrap ((IntKind.u64.wrap ((IntKind.u64.wrap (x14_1)) * 4096)) + (IntKind.u64.wrap (4 * (IntKind.u64.wrap (t137))))))) % 4294967296) a1 a2 a3 x15_1 t152 t153 t154 t155 t156 _ A40.out).mono ?_); rintro e w41 ⟨rfl, hb⟩; refine ⟨_, rfl, ?_⟩; have n0_ := Aside0.mk (blk_below (g := gb129) (o := .cells #[.int .i64 x130000_1, .int .u32 x130001_1, .int .u32 x130002_1, .int .u32 x130003_1, .int .u32 x130004_1] 48 (0, 0)) (by (with_reducible repeat (first | refine blk_drewN ?_ _ | refine blk_drew ?_ | refine blk_alloc ?_ _)); exact BK129.out) hb); have n1_ := Aside0.mk (below_step (by repeat (first | (with_reducible first | exact HB.out | apply below_alloc | apply pw_below_drewN | apply below_drew1 | refine below_set ?_ GE129.out) | exact HB.out)) hb); clear BK129; clear HB; have BK129 := n0_; have HB := n1_; clear n0_ n1_; (try clear hb); (try clear hb2); (try clear hk); (try clear hi); have hcz42_0 : w41.cell? ⟨gb129, 0, none⟩ = some (.int .i64 x130000_1) := (blk_cell BK129.out 0).trans rfl; have hcz42_1 : w41.cell? ⟨gb129, 1, none⟩ = some (.int .u32 x130001_1) := (blk_cell BK129.out 1).trans rfl; have hcz42_2 : w41.cell? ⟨gb129, 2, none⟩ = some (.int .u32 x130002_1) := (blk_cell BK129.out 2).trans rfl; have hcz42_3 : w41.cell? ⟨gb129, 3, none⟩ = some (.int .u32 x130003_1) := (blk_cell BK129.out 3).trans rfl; have hcz42_4 : w41.cell? ⟨gb129, 4, none⟩ = some (.int .u32 x130004_1) := (blk_cell BK129.out 4).trans rfl; have hfz42_0 := blk_frozen BK129.out 0; have hfz42_1 := blk_frozen BK129.out 1; have hfz42_2 := blk_frozen BK129.out 2; have hfz42_3 := blk_frozen BK129.out 3; have hfz42_4 := blk_frozen BK129.out 4))
                              refine bodyPost_ret (results_ct rfl _ _ gb129 48 #[.int .i64 t152, .int .u32 t153, .int .u32 t154, .int .u32 t155, .int .u32 t156] (0, 0) _ rfl (by (with_reducible repeat (first | refine blk_drewN ?_ _ | refine blk_drew ?_ | refine blk_alloc ?_ _)); refine blk_put (cs := #[.int .i64 t152, .int .u32 t153, .int .u32 t154, .int .u32 t155, .int .u32 x130004_1]) ?_ 4 _ rfl; (with_reducible repeat (first | refine blk_drewN ?_ _ | refine blk_drew ?_ | refine blk_alloc ?_ _)); refine blk_put (cs := #[.int .i64 t152, .int .u32 t153, .int .u32 t154, .int .u32 x130003_1, .int .u32 x130004_1]) ?_ 3 _ rfl; (with_reducible repeat (first | refine blk_drewN ?_ _ | refine blk_drew ?_ | refine blk_alloc ?_ _)); refine blk_put (cs := #[.int .i64 t152, .int .u32 t153, .int .u32 x130002_1, .int .u32 x130003_1, .int .u32 x130004_1]) ?_ 2 _ rfl; (with_reducible repeat (first | refine blk_drewN ?_ _ | refine blk_drew ?_ | refine blk_alloc ?_ _)); refine blk_put (cs := #[.int .i64 t152, .int .u32 x130001_1, .int .u32 x130002_1, .int .u32 x130003_1, .int .u32 x130004_1]) ?_ 1 _ rfl; (with_reducible repeat (first | refine blk_drewN ?_ _ | refine blk_drew ?_ | refine blk_alloc ?_ _)); refine blk_put (cs := #[.int .i64 x130000_1, .int .u32 x130001_1, .int .u32 x130002_1, .int .u32 x130003_1, .int .u32 x130004_1]) ?_ 0 _ rfl; (with_reducible repeat (first | refine blk_drewN ?_ _ | refine blk_drew ?_ | refine blk_alloc ?_ _)); exact BK129.out) Try.underlying48 rfl (by kernel_rfl)) rfl ?_
                              exact ⟨by first | rfl | (simp [errW_none, errW_some] <;> rfl) | (simp only [← hji28]; first | rfl | (simp [errW_none, errW_some] <;> rfl)) | (simp [*, errW_none, errW_some] <;> rfl), by repeat (first | (with_reducible first | exact HB.out | apply below_alloc | apply pw_below_drewN | apply below_drew1 | refine below_set ?_ GE129.out) | exact HB.out)⟩
                            · replace c39 := Bool.eq_false_iff.mpr c39
                              subst c39
                              have H1 : ((pte_Page.f ((rd_T52 l5 (ji28)).f1)).bind fun t157 => (walk_next.l0 kj30 a1 a2 a3 a4 l5 t157 (wrap64 (x15_1 - 1)))) = some (r1, r2, r3, r4, r5, r6) := by rw [if_neg (show ¬ (false = true) by decide)] at H; exact H
                              clear H
                              have H := H1
                              clear H1
                              replace H := Option.bind_eq_some_iff.mp H
                              obtain ⟨t157, A430, H⟩ := H
                              replace H : (walk_next.l0 kj30 a1 a2 a3 a4 l5 t157 (wrap64 (x15_1 - 1))) = some (r1, r2, r3, r4, r5, r6) := H
                              have A43 := Aside0.mk A430
                              clear A430
                              have H' := Aside0.mk H
                              clear H
                              go_wp2_with (first | ((with_reducible refine gate_callee (f := 46) rfl ?_); refine goesL_ (some 90) rfl rfl Try.func46 (by kernel_rfl) rfl #[.int .u32 ((rd_T52 l5 (ji28)).f1)] rfl (by (try simp only [List.map_toArray, List.map_cons, List.map_nil]); first | done | (simp only [hji28]; rfl) | rfl | (simp only [List.length_drop, List.length_take]; rfl)) ?_; (with_reducible refine (pte_Leaf.calls ((rd_T52 l5 (ji28)).f1) false _ A38.out).mono ?_); rintro e w' ⟨rfl, ⟨nd, rfl⟩⟩; refine ⟨_, rfl, ?_⟩) | ((with_reducible refine gate_callee (f := 54) rfl ?_); refine goesL_ (some 93) rfl rfl Try.func54 (by kernel_rfl) rfl #[.int .u32 ((rd_T52 l5 (ji28)).f1)] rfl (by (try simp only [List.map_toArray, List.map_cons, List.map_nil]); first | done | (simp only [hji28]; rfl) | rfl | (simp only [List.length_drop, List.length_take]; rfl)) ?_; (with_reducible refine (pte_Page.calls ((rd_T52 l5 (ji28)).f1) t157 _ A43.out).mono ?_); rintro e w' ⟨rfl, ⟨nd, rfl⟩⟩; refine ⟨_, rfl, ?_⟩))
                              go_roundg kj30
                              case measure => have := HK1.out; have := HJ17.out; have := HJ30.out; omega
                              case rel => exact ⟨(t157), (wrap64 (x15_1 - 1)), (x130000_1), (x130001_1), (x130002_1), (x130003_1), (x130004_1), (by first | rfl | (simp; done) | (simp [*]; done)), (by first | rfl | (simp; done) | (simp [*]; done)), H', ⟨by have := HK1.out; have := HJ17.out; have := HJ30.out; omega⟩, ⟨by (with_reducible repeat (first | refine blk_drewN ?_ _ | refine blk_drew ?_ | refine blk_alloc ?_ _)); exact BK129.out⟩, ⟨by repeat (first | (with_reducible first | exact HB.out | apply below_alloc | apply pw_below_drewN | apply below_drew1 | refine below_set ?_ GE129.out) | exact HB.out)⟩⟩
                    · rw [if_neg c30] at H
                      exact absurd H (by simp)
                  · rw [if_neg c29] at H
                    exact absurd H (by simp)
        · rw [if_neg c16] at H
          have c16b0 : decide (0 ≤ x15_1) = false := decide_eq_false c16
          clear c16
          replace H := Option.bind_eq_some_iff.mp H
          obtain ⟨⟨t132, t133, t134, t135, t136⟩, A440, H⟩ := H
          replace H : (some (t132, t133, t134, t135, t136, 2)) = some (r1, r2, r3, r4, r5, r6) := H
          have A44 := Aside0.mk A440
          clear A440
          simp only [Option.some.injEq, Prod.mk.injEq] at H
          obtain ⟨rfl, rfl, rfl, rfl, rfl, rfl⟩ := H
          go_wp2_with (first | ((with_reducible refine gate_callee (f := 43) rfl ?_); refine goesL_ (some 105) rfl rfl Try.func43 (by kernel_rfl) rfl #[.int .i64 a3, .bool true] rfl (by (try simp only [List.map_toArray, List.map_cons, List.map_nil]); first | done | rfl | (simp only [List.length_drop, List.length_take]; rfl)) ?_; (with_reducible refine (walk_fault.calls a3 true t132 t133 t134 t135 t136 _ A44.out).mono ?_); rintro e w45 ⟨rfl, hb⟩; refine ⟨_, rfl, ?_⟩; have n0_ := Aside0.mk (blk_below (g := gb129) (o := .cells #[.int .i64 x130000_1, .int .u32 x130001_1, .int .u32 x130002_1, .int .u32 x130003_1, .int .u32 x130004_1] 48 (0, 0)) (by (with_reducible repeat (first | refine blk_drewN ?_ _ | refine blk_drew ?_ | refine blk_alloc ?_ _)); exact BK129.out) hb); have n1_ := Aside0.mk (below_step (by repeat (first | (with_reducible first | exact HB.out | apply below_alloc | apply pw_below_drewN | apply below_drew1 | refine below_set ?_ GE129.out) | exact HB.out)) hb); clear BK129; clear HB; have BK129 := n0_; have HB := n1_; clear n0_ n1_; (try clear hb); (try clear hb2); (try clear hk); (try clear hi); have hcz46_0 : w45.cell? ⟨gb129, 0, none⟩ = some (.int .i64 x130000_1) := (blk_cell BK129.out 0).trans rfl; have hcz46_1 : w45.cell? ⟨gb129, 1, none⟩ = some (.int .u32 x130001_1) := (blk_cell BK129.out 1).trans rfl; have hcz46_2 : w45.cell? ⟨gb129, 2, none⟩ = some (.int .u32 x130002_1) := (blk_cell BK129.out 2).trans rfl; have hcz46_3 : w45.cell? ⟨gb129, 3, none⟩ = some (.int .u32 x130003_1) := (blk_cell BK129.out 3).trans rfl; have hcz46_4 : w45.cell? ⟨gb129, 4, none⟩ = some (.int .u32 x130004_1) := (blk_cell BK129.out 4).trans rfl; have hfz46_0 := blk_frozen BK129.out 0; have hfz46_1 := blk_frozen BK129.out 1; have hfz46_2 := blk_frozen BK129.out 2; have hfz46_3 := blk_frozen BK129.out 3; have hfz46_4 := blk_frozen BK129.out 4))
          refine bodyPost_ret (results_ct rfl _ _ gb129 48 #[.int .i64 t132, .int .u32 t133, .int .u32 t134, .int .u32 t135, .int .u32 t136] (0, 0) _ rfl (by (with_reducible repeat (first | refine blk_drewN ?_ _ | refine blk_drew ?_ | refine blk_alloc ?_ _)); refine blk_put (cs := #[.int .i64 t132, .int .u32 t133, .int .u32 t134, .int .u32 t135, .int .u32 x130004_1]) ?_ 4 _ rfl; (with_reducible repeat (first | refine blk_drewN ?_ _ | refine blk_drew ?_ | refine blk_alloc ?_ _)); refine blk_put (cs := #[.int .i64 t132, .int .u32 t133, .int .u32 t134, .int .u32 x130003_1, .int .u32 x130004_1]) ?_ 3 _ rfl; (with_reducible repeat (first | refine blk_drewN ?_ _ | refine blk_drew ?_ | refine blk_alloc ?_ _)); refine blk_put (cs := #[.int .i64 t132, .int .u32 t133, .int .u32 x130002_1, .int .u32 x130003_1, .int .u32 x130004_1]) ?_ 2 _ rfl; (with_reducible repeat (first | refine blk_drewN ?_ _ | refine blk_drew ?_ | refine blk_alloc ?_ _)); refine blk_put (cs := #[.int .i64 t132, .int .u32 x130001_1, .int .u32 x130002_1, .int .u32 x130003_1, .int .u32 x130004_1]) ?_ 1 _ rfl; (with_reducible repeat (first | refine blk_drewN ?_ _ | refine blk_drew ?_ | refine blk_alloc ?_ _)); refine blk_put (cs := #[.int .i64 x130000_1, .int .u32 x130001_1, .int .u32 x130002_1, .int .u32 x130003_1, .int .u32 x130004_1]) ?_ 0 _ rfl; (with_reducible repeat (first | refine blk_drewN ?_ _ | refine blk_drew ?_ | refine blk_alloc ?_ _)); exact BK129.out) Try.underlying48 rfl (by kernel_rfl)) rfl ?_
          exact ⟨by first | rfl | (simp [errW_none, errW_some] <;> rfl) | (simp [*, errW_none, errW_some] <;> rfl), by repeat (first | (with_reducible first | exact HB.out | apply below_alloc | apply pw_below_drewN | apply below_drew1 | refine below_set ?_ GE129.out) | exact HB.out)⟩

/-! ### walk_Next: function 21 -/
def walk_Next.f (k : Nat) (a0 : Int) (a1 : Int) (a2 : Int) (a3 : Int) (a4 : Int) (l5 : List (S52)) : Option (Int × Int × Int × Int × Int) := (walk_next.f k a0 a1 a2 a3 a4 l5).bind fun bt159 => (if bt159.2.2.2.2.2 < (l5.length : Int) then ((walk_fault.f a3 true).bind fun bt166 => (some (bt166.1, bt166.2.1, bt166.2.2.1, bt166.2.2.2.1, bt166.2.2.2.2))) else (some (bt159.1, bt159.2.1, bt159.2.2.1, bt159.2.2.2.1, bt159.2.2.2.2.1)))
theorem walk_Next.mono : ∀ a0 a1 a2 a3 a4 a5 k, LeO (walk_Next.f k a0 a1 a2 a3 a4 a5) (walk_Next.f (k + 1) a0 a1 a2 a3 a4 a5) := by
  intro a0 a1 a2 a3 a4 a5 k
  unfold walk_Next.f
  repeat' first
      | (with_reducible exact walk_next.mono _ _ _ _ _ _ _)
      | (with_reducible exact LeO.refl _)
      | (with_reducible exact LeO.none _)
      | (with_reducible refine LeO.ite ?_ ?_)
      | (with_reducible refine LeO.bind ?_ (fun _ => ?_))
      | exact walk_next.mono _ _ _ _ _ _ _
      | exact LeO.none _
      | refine LeO.ite ?_ ?_
      | refine LeO.bind ?_ (fun _ => ?_)
set_option maxHeartbeats 8000000 in
set_option maxRecDepth 100000 in
theorem walk_Next.calls (k : Nat) (a0 : Int) (a1 : Int) (a2 : Int) (a3 : Int) (a4 : Int) (A5 : Option Addr) (c5 : Nat) (l5 : List (S52)) (r1 : Int) (r2 : Int) (r3 : Int) (r4 : Int) (r5 : Int) (w : World) (hr5 : Kd.C k52 w A5 l5.length l5) (hc5 : l5.length ≤ c5) (h : walk_Next.f k a0 a1 a2 a3 a4 l5 = some (r1, r2, r3, r4, r5)) :
    Calls Try.prog 21 #[.int .u32 a0, .int .i64 a1, .int .u32 a2, .int .i64 a3, .int .i64 a4, .slice A5 l5.length c5] w fun e w' => e = .returned (.agg #[.int .i64 r1, .int .u32 r2, .int .u32 r3, .int .u32 r4, .int .u32 r5]) ∧ Below w.heap.size w w' := by
  have hu48 := Try.underlying48
  have HR5 := Aside0.mk hr5
  have HC5 := Aside0.mk hc5
  clear hr5 hc5
  have HB := Aside0.mk (Below.refl w.heap.size w)
  have H : ((walk_next.f k a0 a1 a2 a3 a4 l5).bind fun bt159 => (if bt159.2.2.2.2.2 < (l5.length : Int) then ((walk_fault.f a3 true).bind fun bt166 => (some (bt166.1, bt166.2.1, bt166.2.2.1, bt166.2.2.2.1, bt166.2.2.2.2))) else (some (bt159.1, bt159.2.1, bt159.2.2.1, bt159.2.2.2.1, bt159.2.2.2.2.1)))) = some (r1, r2, r3, r4, r5) := h
  clear h
  replace H := Option.bind_eq_some_iff.mp H
  obtain ⟨⟨t159, t160, t161, t162, t163, t164⟩, A70, H⟩ := H
  replace H : (if t164 < (l5.length : Int) then ((walk_fault.f a3 true).bind fun bt166 => (some (bt166.1, bt166.2.1, bt166.2.2.1, bt166.2.2.2.1, bt166.2.2.2.2))) else (some (t159, t160, t161, t162, t163))) = some (r1, r2, r3, r4, r5) := H
  have A7 := Aside0.mk A70
  clear A70
  by_cases c8 : t164 < (l5.length : Int)
  · rw [if_pos c8] at H
    have c8b0 : decide (t164 < (l5.length : Int)) = true := decide_eq_true c8
    clear c8
    replace H := Option.bind_eq_some_iff.mp H
    obtain ⟨⟨t166, t167, t168, t169, t170⟩, A90, H⟩ := H
    replace H : (some (t166, t167, t168, t169, t170)) = some (r1, r2, r3, r4, r5) := H
    have A9 := Aside0.mk A90
    clear A90
    simp only [Option.some.injEq, Prod.mk.injEq] at H
    obtain ⟨rfl, rfl, rfl, rfl, rfl⟩ := H
    go_enter Try.func21, Try.ntmps21
    go_wp2_with (first | ((with_reducible refine gate_dst (N := 12) rfl ?_); refine box_event ?hg (N := 12) ?hd (cs := #[.int .i64 0, .int .u32 0, .int .u32 0, .int .u32 0, .int .u32 0]) (t := 48) ?hr ?_; (case hd => rfl); (case hg => rfl); (case hr => first | (go_simp; done) | (go_simp; rfl)); intro gb158 hg w10 hbox hb; have n0_ := Aside0.mk (below_step (by repeat (first | (with_reducible first | exact HB.out | apply below_alloc | apply pw_below_drewN | apply below_drew1) | exact HB.out)) hb); have n1_ := Aside0.mk (hbox); have n2_ := Aside0.mk ((by rw [hg]; exact (below_size (by repeat (first | (with_reducible first | exact HB.out | apply below_alloc | apply pw_below_drewN | apply below_drew1) | exact HB.out))) : w.heap.size ≤ gb158)); have n3_ := Aside0.mk ((by rw [hg]; exact (below_size (by repeat (first | (with_reducible first | exact HB.out | apply below_alloc | apply pw_below_drewN | apply below_drew1) | exact HB.out))) : w.heap.size ≤ gb158)); clear HB; have HB := n0_; have BK158 := n1_; have GW158 := n2_; have GE158 := n3_; clear n0_ n1_ n2_ n3_; clear hb hbox hg) | ((with_reducible refine gate_callee (f := 42) rfl ?_); refine goesL_ (some 22) rfl rfl Try.func42 (by kernel_rfl) rfl #[.int .u32 a0, .int .i64 a1, .int .u32 a2, .int .i64 a3, .int .i64 a4, .slice A5 l5.length c5] rfl (by (try simp only [List.map_toArray, List.map_cons, List.map_nil]); first | done | rfl | (simp only [List.length_drop, List.length_take]; rfl)) ?_; (with_reducible refine (walk_next.calls k a0 a1 a2 a3 a4 _ _ l5 t159 t160 t161 t162 t163 t164 _ ?side1 ?side2 A7.out).mono ?_); (case side1 => repeat (first | exact (Kd.C_below HR5.out HB.out) | (with_reducible refine Kd.C_alloc ?_ _) | (with_reducible refine Kd.C_drewN ?_ _) | (with_reducible refine Kd.C_drew ?_))); (case side2 => exact HC5.out); rintro e w11 ⟨rfl, hb⟩; refine ⟨_, rfl, ?_⟩; have n0_ := Aside0.mk (blk_below (g := gb158) (o := .cells #[.int .i64 0, .int .u32 0, .int .u32 0, .int .u32 0, .int .u32 0] 48 (0, 0)) (by (with_reducible repeat (first | refine blk_drewN ?_ _ | refine blk_drew ?_ | refine blk_alloc ?_ _)); exact BK158.out) hb); have n1_ := Aside0.mk (below_step (by repeat (first | (with_reducible first | exact HB.out | apply below_alloc | apply pw_below_drewN | apply below_drew1 | refine below_set ?_ GE158.out) | exact HB.out)) hb); clear BK158; clear HB; have BK158 := n0_; have HB := n1_; clear n0_ n1_; (try clear hb); (try clear hb2); (try clear hk); (try clear hi)) | ((with_reducible refine gate_dst (N := 13) rfl ?_); refine box_event ?hg (N := 13) ?hd (cs := #[.int .i64 0, .int .u32 0, .int .u32 0, .int .u32 0, .int .u32 0]) (t := 48) ?hr ?_; (case hd => rfl); (case hg => rfl); (case hr => first | (go_simp; done) | (go_simp; rfl)); intro gb165 hg w12 hbox hb; have n0_ := Aside0.mk (blk_below (g := gb158) (o := .cells #[.int .i64 0, .int .u32 0, .int .u32 0, .int .u32 0, .int .u32 0] 48 (0, 0)) (by (with_reducible repeat (first | refine blk_drewN ?_ _ | refine blk_drew ?_ | refine blk_alloc ?_ _)); exact BK158.out) hb); have n1_ := Aside0.mk (below_step (by repeat (first | (with_reducible first | exact HB.out | apply below_alloc | apply pw_below_drewN | apply below_drew1 | refine below_set ?_ GE158.out) | exact HB.out)) hb); have n2_ := Aside0.mk (hbox); have n3_ := Aside0.mk ((by rw [hg]; exact (below_size (by repeat (first | (with_reducible first | exact HB.out | apply below_alloc | apply pw_below_drewN | apply below_drew1 | refine below_set ?_ GE158.out) | exact HB.out))) : w.heap.size ≤ gb165)); have n4_ := Aside0.mk ((by rw [hg]; exact (below_size (by repeat (first | (with_reducible first | exact HB.out | apply below_alloc | apply pw_below_drewN | apply below_drew1 | refine below_set ?_ GE158.out) | exact HB.out))) : w.heap.size ≤ gb165)); have n5_ := Aside0.mk ((by rw [hg]; exact Nat.ne_of_lt (blk_lt (g := gb158) (o := .cells #[.int .i64 0, .int .u32 0, .int .u32 0, .int .u32 0, .int .u32 0] 48 (0, 0)) (by (with_reducible repeat (first | refine blk_drewN ?_ _ | refine blk_drew ?_ | refine blk_alloc ?_ _)); exact BK158.out)) : gb158 ≠ gb165)); have n6_ := Aside0.mk ((by rw [hg]; exact Nat.ne_of_gt (blk_lt (g := gb158) (o := .cells #[.int .i64 0, .int .u32 0, .int .u32 0, .int .u32 0, .int .u32 0] 48 (0, 0)) (by (with_reducible repeat (first | refine blk_drewN ?_ _ | refine blk_drew ?_ | refine blk_alloc ?_ _)); exact BK158.out)) : gb165 ≠ gb158)); clear BK158; clear HB; have BK158 := n0_; have HB := n1_; have BK165 := n2_; have GW165 := n3_; have GE165 := n4_; have NB158_165 := n5_; have NB165_158 := n6_; clear n0_ n1_ n2_ n3_ n4_ n5_ n6_; clear hb hbox hg; have hnb13 := NB165_158.out; have hnc13 := NB158_165.out; have hcz14_0 : w12.cell? ⟨gb165, 0, none⟩ = some (.int .i64 0) := (blk_cell BK165.out 0).trans rfl; have hcz14_1 : w12.cell? ⟨gb165, 1, none⟩ = some (.int .u32 0) := (blk_cell BK165.out 1).trans rfl; have hcz14_2 : w12.cell? ⟨gb165, 2, none⟩ = some (.int .u32 0) := (blk_cell BK165.out 2).trans rfl; have hcz14_3 : w12.cell? ⟨gb165, 3, none⟩ = some (.int .u32 0) := (blk_cell BK165.out 3).trans rfl; have hcz14_4 : w12.cell? ⟨gb165, 4, none⟩ = some (.int .u32 0) := (blk_cell BK165.out 4).trans rfl; have hfz14_0 := blk_frozen BK165.out 0; have hfz14_1 := blk_frozen BK165.out 1; have hfz14_2 := blk_frozen BK165.out 2; have hfz14_3 := blk_frozen BK165.out 3; have hfz14_4 := blk_frozen BK165.out 4) | ((with_reducible refine gate_callee (f := 43) rfl ?_); refine goesL_ (some 30) rfl rfl Try.func43 (by kernel_rfl) rfl #[.int .i64 a3, .bool true] rfl (by (try simp only [List.map_toArray, List.map_cons, List.map_nil]); first | done | rfl | (simp only [List.length_drop, List.length_take]; rfl)) ?_; (with_reducible refine (walk_fault.calls a3 true t166 t167 t168 t169 t170 _ A9.out).mono ?_); rintro e w15 ⟨rfl, hb⟩; refine ⟨_, rfl, ?_⟩; have n0_ := Aside0.mk (blk_below (g := gb158) (o := .cells #[.int .i64 0, .int .u32 0, .int .u32 0, .int .u32 0, .int .u32 0] 48 (0, 0)) (by (with_reducible repeat (first | refine blk_drewN ?_ _ | refine blk_drew ?_ | refine blk_alloc ?_ _)); refine blk_far ?_ NB158_165.out _; (with_reducible repeat (first | refine blk_drewN ?_ _ | refine blk_drew ?_ | refine blk_alloc ?_ _)); refine blk_far ?_ NB158_165.out _; (with_reducible repeat (first | refine blk_drewN ?_ _ | refine blk_drew ?_ | refine blk_alloc ?_ _)); refine blk_far ?_ NB158_165.out _; (with_reducible repeat (first | refine blk_drewN ?_ _ | refine blk_drew ?_ | refine blk_alloc ?_ _)); refine blk_far ?_ NB158_165.out _; (with_reducible repeat (first | refine blk_drewN ?_ _ | refine blk_drew ?_ | refine blk_alloc ?_ _)); refine blk_far ?_ NB158_165.out _; (with_reducible repeat (first | refine blk_drewN ?_ _ | refine blk_drew ?_ | refine blk_alloc ?_ _)); exact BK158.out) hb); have n1_ := Aside0.mk (blk_below (g := gb165) (o := .cells #[.int .i64 t159, .int .u32 t160, .int .u32 t161, .int .u32 t162, .int .u32 t163] 48 (0, 0)) (by (with_reducible repeat (first | refine blk_drewN ?_ _ | refine blk_drew ?_ | refine blk_alloc ?_ _)); refine blk_put (cs := #[.int .i64 t159, .int .u32 t160, .int .u32 t161, .int .u32 t162, .int .u32 0]) ?_ 4 _ rfl; (with_reducible repeat (first | refine blk_drewN ?_ _ | refine blk_drew ?_ | refine blk_alloc ?_ _)); refine blk_put (cs := #[.int .i64 t159, .int .u32 t160, .int .u32 t161, .int .u32 0, .int .u32 0]) ?_ 3 _ rfl; (with_reducible repeat (first | refine blk_drewN ?_ _ | refine blk_drew ?_ | refine blk_alloc ?_ _)); refine blk_put (cs := #[.int .i64 t159, .int .u32 t160, .int .u32 0, .int .u32 0, .int .u32 0]) ?_ 2 _ rfl; (with_reducible repeat (first | refine blk_drewN ?_ _ | refine blk_drew ?_ | refine blk_alloc ?_ _)); refine blk_put (cs := #[.int .i64 t159, .int .u32 0, .int .u32 0, .int .u32 0, .int .u32 0]) ?_ 1 _ rfl; (with_reducible repeat (first | refine blk_drewN ?_ _ | refine blk_drew ?_ | refine blk_alloc ?_ _)); refine blk_put (cs := #[.int .i64 0, .int .u32 0, .int .u32 0, .int .u32 0, .int .u32 0]) ?_ 0 _ rfl; (with_reducible repeat (first | refine blk_drewN ?_ _ | refine blk_drew ?_ | refine blk_alloc ?_ _)); exact BK165.out) hb); have n2_ := Aside0.mk (below_step (by repeat (first | (with_reducible first | exact HB.out | apply below_alloc | apply pw_below_drewN | apply below_drew1 | refine below_set ?_ GE158.out | refine below_set ?_ GE165.out) | exact HB.out)) hb); clear BK158; clear BK165; clear HB; have BK158 := n0_; have BK165 := n1_; have HB := n2_; clear n0_ n1_ n2_; (try clear hb); (try clear hb2); (try clear hk); (try clear hi); have hcz16_0 : w15.cell? ⟨gb158, 0, none⟩ = some (.int .i64 0) := (blk_cell BK158.out 0).trans rfl; have hcz16_1 : w15.cell? ⟨gb158, 1, none⟩ = some (.int .u32 0) := (blk_cell BK158.out 1).trans rfl; have hcz16_2 : w15.cell? ⟨gb158, 2, none⟩ = some (.int .u32 0) := (blk_cell BK158.out 2).trans rfl; have hcz16_3 : w15.cell? ⟨gb158, 3, none⟩ = some (.int .u32 0) := (blk_cell BK158.out 3).trans rfl; have hcz16_4 : w15.cell? ⟨gb158, 4, none⟩ = some (.int .u32 0) := (blk_cell BK158.out 4).trans rfl; have hfz16_0 := blk_frozen BK158.out 0; have hfz16_1 := blk_frozen BK158.out 1; have hfz16_2 := blk_frozen BK158.out 2; have hfz16_3 := blk_frozen BK158.out 3; have hfz16_4 := blk_frozen BK158.out 4))
    refine bodyPost_ret (results_cell_row rfl _ _ gb158 48 #[.int .i64 t166, .int .u32 t167, .int .u32 t168, .int .u32 t169, .int .u32 t170] (0, 0) _ rfl (by (with_reducible repeat (first | refine blk_drewN ?_ _ | refine blk_drew ?_ | refine blk_alloc ?_ _)); refine blk_put (cs := #[.int .i64 t166, .int .u32 t167, .int .u32 t168, .int .u32 t169, .int .u32 0]) ?_ 4 _ rfl; (with_reducible repeat (first | refine blk_drewN ?_ _ | refine blk_drew ?_ | refine blk_alloc ?_ _)); refine blk_put (cs := #[.int .i64 t166, .int .u32 t167, .int .u32 t168, .int .u32 0, .int .u32 0]) ?_ 3 _ rfl; (with_reducible repeat (first | refine blk_drewN ?_ _ | refine blk_drew ?_ | refine blk_alloc ?_ _)); refine blk_put (cs := #[.int .i64 t166, .int .u32 t167, .int .u32 0, .int .u32 0, .int .u32 0]) ?_ 2 _ rfl; (with_reducible repeat (first | refine blk_drewN ?_ _ | refine blk_drew ?_ | refine blk_alloc ?_ _)); refine blk_put (cs := #[.int .i64 t166, .int .u32 0, .int .u32 0, .int .u32 0, .int .u32 0]) ?_ 1 _ rfl; (with_reducible repeat (first | refine blk_drewN ?_ _ | refine blk_drew ?_ | refine blk_alloc ?_ _)); refine blk_put (cs := #[.int .i64 0, .int .u32 0, .int .u32 0, .int .u32 0, .int .u32 0]) ?_ 0 _ rfl; (with_reducible repeat (first | refine blk_drewN ?_ _ | refine blk_drew ?_ | refine blk_alloc ?_ _)); exact BK158.out) Try.underlying48 rfl (by kernel_rfl)) rfl ?_
    exact ⟨by first | rfl | (simp [errW_none, errW_some] <;> rfl) | (simp [*, errW_none, errW_some] <;> rfl), by repeat (first | (with_reducible first | exact HB.out | apply below_alloc | apply pw_below_drewN | apply below_drew1 | refine below_set ?_ GE158.out | refine below_set ?_ GE165.out) | exact HB.out)⟩
  · rw [if_neg c8] at H
    have c8b0 : decide (t164 < (l5.length : Int)) = false := decide_eq_false c8
    clear c8
    simp only [Option.some.injEq, Prod.mk.injEq] at H
    obtain ⟨rfl, rfl, rfl, rfl, rfl⟩ := H
    go_enter Try.func21, Try.ntmps21
    go_wp2_with (first | ((with_reducible refine gate_dst (N := 12) rfl ?_); refine box_event ?hg (N := 12) ?hd (cs := #[.int .i64 0, .int .u32 0, .int .u32 0, .int .u32 0, .int .u32 0]) (t := 48) ?hr ?_; (case hd => rfl); (case hg => rfl); (case hr => first | (go_simp; done) | (go_simp; rfl)); intro gb158 hg w17 hbox hb; have n0_ := Aside0.mk (below_step (by repeat (first | (with_reducible first | exact HB.out | apply below_alloc | apply pw_below_drewN | apply below_drew1) | exact HB.out)) hb); have n1_ := Aside0.mk (hbox); have n2_ := Aside0.mk ((by rw [hg]; exact (below_size (by repeat (first | (with_reducible first | exact HB.out | apply below_alloc | apply pw_below_drewN | apply below_drew1) | exact HB.out))) : w.heap.size ≤ gb158)); have n3_ := Aside0.mk ((by rw [hg]; exact (below_size (by repeat (first | (with_reducible first | exact HB.out | apply below_alloc | apply pw_below_drewN | apply below_drew1) | exact HB.out))) : w.heap.size ≤ gb158)); clear HB; have HB := n0_; have BK158 := n1_; have GW158 := n2_; have GE158 := n3_; clear n0_ n1_ n2_ n3_; clear hb hbox hg) | ((with_reducible refine gate_callee (f := 42) rfl ?_); refine goesL_ (some 22) rfl rfl Try.func42 (by kernel_rfl) rfl #[.int .u32 a0, .int .i64 a1, .int .u32 a2, .int .i64 a3, .int .i64 a4, .slice A5 l5.length c5] rfl (by (try simp only [List.map_toArray, List.map_cons, List.map_nil]); first | done | rfl | (simp only [List.length_drop, List.length_take]; rfl)) ?_; (with_reducible refine (walk_next.calls k a0 a1 a2 a3 a4 _ _ l5 t159 t160 t161 t162 t163 t164 _ ?side1 ?side2 A7.out).mono ?_); (case side1 => repeat (first | exact (Kd.C_below HR5.out HB.out) | (with_reducible refine Kd.C_alloc ?_ _) | (with_reducible refine Kd.C_drewN ?_ _) | (with_reducible refine Kd.C_drew ?_))); (case side2 => exact HC5.out); rintro e w18 ⟨rfl, hb⟩; refine ⟨_, rfl, ?_⟩; have n0_ := Aside0.mk (blk_below (g := gb158) (o := .cells #[.int .i64 0, .int .u32 0, .int .u32 0, .int .u32 0, .int .u32 0] 48 (0, 0)) (by (with_reducible repeat (first | refine blk_drewN ?_ _ | refine blk_drew ?_ | refine blk_alloc ?_ _)); exact BK158.out) hb); have n1_ := Aside0.mk (below_step (by repeat (first | (with_reducible first | exact HB.out | apply below_alloc | apply pw_below_drewN | apply below_drew1 | refine below_set ?_ GE158.out) | exact HB.out)) hb); clear BK158; clear HB; have BK158 := n0_; have HB := n1_; clear n0_ n1_; (try clear hb); (try clear hb2); (try clear hk); (try clear hi)) | ((with_reducible refine gate_dst (N := 13) rfl ?_); refine box_event ?hg (N := 13) ?hd (cs := #[.int .i64 0, .int .u32 0, .int .u32 0, .int .u32 0, .int .u32 0]) (t := 48) ?hr ?_; (case hd => rfl); (case hg => rfl); (case hr => first | (go_simp; done) | (go_simp; rfl)); intro gb165 hg w19 hbox hb; have n0_ := Aside0.mk (blk_below (g := gb158) (o := .cells #[.int .i64 0, .int .u32 0, .int .u32 0, .int .u32 0, .int .u32 0] 48 (0, 0)) (by (with_reducible repeat (first | refine blk_drewN ?_ _ | refine blk_drew ?_ | refine blk_alloc ?_ _)); exact BK158.out) hb); have n1_ := Aside0.mk (below_step (by repeat (first | (with_reducible first | exact HB.out | apply below_alloc | apply pw_below_drewN | apply below_drew1 | refine below_set ?_ GE158.out) | exact HB.out)) hb); have n2_ := Aside0.mk (hbox); have n3_ := Aside0.mk ((by rw [hg]; exact (below_size (by repeat (first | (with_reducible first | exact HB.out | apply below_alloc | apply pw_below_drewN | apply below_drew1 | refine below_set ?_ GE158.out) | exact HB.out))) : w.heap.size ≤ gb165)); have n4_ := Aside0.mk ((by rw [hg]; exact (below_size (by repeat (first | (with_reducible first | exact HB.out | apply below_alloc | apply pw_below_drewN | apply below_drew1 | refine below_set ?_ GE158.out) | exact HB.out))) : w.heap.size ≤ gb165)); have n5_ := Aside0.mk ((by rw [hg]; exact Nat.ne_of_lt (blk_lt (g := gb158) (o := .cells #[.int .i64 0, .int .u32 0, .int .u32 0, .int .u32 0, .int .u32 0] 48 (0, 0)) (by (with_reducible repeat (first | refine blk_drewN ?_ _ | refine blk_drew ?_ | refine blk_alloc ?_ _)); exact BK158.out)) : gb158 ≠ gb165)); have n6_ := Aside0.mk ((by rw [hg]; exact Nat.ne_of_gt (blk_lt (g := gb158) (o := .cells #[.int .i64 0, .int .u32 0, .int .u32 0, .int .u32 0, .int .u32 0] 48 (0, 0)) (by (with_reducible repeat (first | refine blk_drewN ?_ _ | refine blk_drew ?_ | refine blk_alloc ?_ _)); exact BK158.out)) : gb165 ≠ gb158)); clear BK158; clear HB; have BK158 := n0_; have HB := n1_; have BK165 := n2_; have GW165 := n3_; have GE165 := n4_; have NB158_165 := n5_; have NB165_158 := n6_; clear n0_ n1_ n2_ n3_ n4_ n5_ n6_; clear hb hbox hg; have hnb20 := NB165_158.out; have hnc20 := NB158_165.out; have hcz21_0 : w19.cell? ⟨gb165, 0, none⟩ = some (.int .i64 0) := (blk_cell BK165.out 0).trans rfl; have hcz21_1 : w19.cell? ⟨gb165, 1, none⟩ = some (.int .u32 0) := (blk_cell BK165.out 1).trans rfl; have hcz21_2 : w19.cell? ⟨gb165, 2, none⟩ = some (.int .u32 0) := (blk_cell BK165.out 2).trans rfl; have hcz21_3 : w19.cell? ⟨gb165, 3, none⟩ = some (.int .u32 0) := (blk_cell BK165.out 3).trans rfl; have hcz21_4 : w19.cell? ⟨gb165, 4, none⟩ = some (.int .u32 0) := (blk_cell BK165.out 4).trans rfl; have hfz21_0 := blk_frozen BK165.out 0; have hfz21_1 := blk_frozen BK165.out 1; have hfz21_2 := blk_frozen BK165.out 2; have hfz21_3 := blk_frozen BK165.out 3; have hfz21_4 := blk_frozen BK165.out 4; have hcz22_0 : w19.cell? ⟨gb158, 0, none⟩ = some (.int .i64 0) := (blk_cell BK158.out 0).trans rfl; have hcz22_1 : w19.cell? ⟨gb158, 1, none⟩ = some (.int .u32 0) := (blk_cell BK158.out 1).trans rfl; have hcz22_2 : w19.cell? ⟨gb158, 2, none⟩ = some (.int .u32 0) := (blk_cell BK158.out 2).trans rfl; have hcz22_3 : w19.cell? ⟨gb158, 3, none⟩ = some (.int .u32 0) := (blk_cell BK158.out 3).trans rfl; have hcz22_4 : w19.cell? ⟨gb158, 4, none⟩ = some (.int .u32 0) := (blk_cell BK158.out 4).trans rfl; have hfz22_0 := blk_frozen BK158.out 0; have hfz22_1 := blk_frozen BK158.out 1; have hfz22_2 := blk_frozen BK158.out 2; have hfz22_3 := blk_frozen BK158.out 3; have hfz22_4 := blk_frozen BK158.out 4))
    refine bodyPost_ret (results_cell_row rfl _ _ gb158 48 #[.int .i64 t159, .int .u32 t160, .int .u32 t161, .int .u32 t162, .int .u32 t163] (0, 0) _ rfl (by (with_reducible repeat (first | refine blk_drewN ?_ _ | refine blk_drew ?_ | refine blk_alloc ?_ _)); refine blk_put (cs := #[.int .i64 t159, .int .u32 t160, .int .u32 t161, .int .u32 t162, .int .u32 0]) ?_ 4 _ rfl; (with_reducible repeat (first | refine blk_drewN ?_ _ | refine blk_drew ?_ | refine blk_alloc ?_ _)); refine blk_put (cs := #[.int .i64 t159, .int .u32 t160, .int .u32 t161, .int .u32 0, .int .u32 0]) ?_ 3 _ rfl; (with_reducible repeat (first | refine blk_drewN ?_ _ | refine blk_drew ?_ | refine blk_alloc ?_ _)); refine blk_put (cs := #[.int .i64 t159, .int .u32 t160, .int .u32 0, .int .u32 0, .int .u32 0]) ?_ 2 _ rfl; (with_reducible repeat (first | refine blk_drewN ?_ _ | refine blk_drew ?_ | refine blk_alloc ?_ _)); refine blk_put (cs := #[.int .i64 t159, .int .u32 0, .int .u32 0, .int .u32 0, .int .u32 0]) ?_ 1 _ rfl; (with_reducible repeat (first | refine blk_drewN ?_ _ | refine blk_drew ?_ | refine blk_alloc ?_ _)); refine blk_put (cs := #[.int .i64 0, .int .u32 0, .int .u32 0, .int .u32 0, .int .u32 0]) ?_ 0 _ rfl; (with_reducible repeat (first | refine blk_drewN ?_ _ | refine blk_drew ?_ | refine blk_alloc ?_ _)); refine blk_far ?_ NB158_165.out _; (with_reducible repeat (first | refine blk_drewN ?_ _ | refine blk_drew ?_ | refine blk_alloc ?_ _)); refine blk_far ?_ NB158_165.out _; (with_reducible repeat (first | refine blk_drewN ?_ _ | refine blk_drew ?_ | refine blk_alloc ?_ _)); refine blk_far ?_ NB158_165.out _; (with_reducible repeat (first | refine blk_drewN ?_ _ | refine blk_drew ?_ | refine blk_alloc ?_ _)); refine blk_far ?_ NB158_165.out _; (with_reducible repeat (first | refine blk_drewN ?_ _ | refine blk_drew ?_ | refine blk_alloc ?_ _)); refine blk_far ?_ NB158_165.out _; (with_reducible repeat (first | refine blk_drewN ?_ _ | refine blk_drew ?_ | refine blk_alloc ?_ _)); exact BK158.out) Try.underlying48 rfl (by kernel_rfl)) rfl ?_
    exact ⟨by first | rfl | (simp [errW_none, errW_some] <;> rfl) | (simp [*, errW_none, errW_some] <;> rfl), by repeat (first | (with_reducible first | exact HB.out | apply below_alloc | apply pw_below_drewN | apply below_drew1 | refine below_set ?_ GE158.out | refine below_set ?_ GE165.out) | exact HB.out)⟩

end Go.Proofs.Ytecmjcfhbedelaa.QWalkEnds
