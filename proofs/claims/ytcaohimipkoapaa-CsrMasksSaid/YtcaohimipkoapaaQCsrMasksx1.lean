-- Laid by a program of this session (wip/tpl/mine.sh), out of the program's form in Lean: Lean checks it.
import Derived.Test.YtcaohimipkoapaaQCsrMasksx0
namespace Go.Proofs.Ytcaohimipkoapaa.QCsrMasks
open Go.RowKit Go.Proofs.YtcaohimipkoapaaW.PrintWords Go.Proofs.YtcaohimipkoapaaW.PrintLast Go.Proofs.YtcaohimipkoapaaW.PrintMore
attribute [local go_sem] max2_int min2_int max_two min_two max_three min_three max_four min_four   -- for this text's walks alone
set_option linter.unusedVariables false
set_option linter.unusedSimpArgs false

/-! ### csr_New: function 21 -/
def csr_New.f (a0 : Int) : Option (Bool × Int × Int × Int × Int × Int × Int × Int × Int × Int × Int) := some (false, 0, 0, 0, 0, 0, 0, 0, 0, 0, (a0) % 4294967296)
set_option maxHeartbeats 8000000 in
set_option maxRecDepth 100000 in
theorem csr_New.calls (a0 : Int) (r1 : Bool) (r2 : Int) (r3 : Int) (r4 : Int) (r5 : Int) (r6 : Int) (r7 : Int) (r8 : Int) (r9 : Int) (r10 : Int) (r11 : Int) (w : World) (h : csr_New.f a0 = some (r1, r2, r3, r4, r5, r6, r7, r8, r9, r10, r11)) :
    Calls Try.prog 21 #[.int .i64 a0] w fun e w' => e = .returned (.agg #[.bool r1, .int .u32 r2, .int .u32 r3, .int .u32 r4, .int .u32 r5, .int .u32 r6, .int .u32 r7, .int .u32 r8, .int .u32 r9, .int .u32 r10, .int .u32 r11]) ∧ Below w.heap.size w w' := by
  have hu38 := Try.underlying38
  have HB := Aside0.mk (Below.refl w.heap.size w)
  have H : (some (false, 0, 0, 0, 0, 0, 0, 0, 0, 0, (a0) % 4294967296)) = some (r1, r2, r3, r4, r5, r6, r7, r8, r9, r10, r11) := h
  clear h
  simp only [Option.some.injEq, Prod.mk.injEq] at H
  obtain ⟨rfl, rfl, rfl, rfl, rfl, rfl, rfl, rfl, rfl, rfl, rfl⟩ := H
  go_enter Try.func21, Try.ntmps21
  go_wp2_with (first | ((with_reducible refine gate_dst (N := 2) rfl ?_); refine box_event ?hg (N := 2) ?hd (cs := #[.bool false, .int .u32 0, .int .u32 0, .int .u32 0, .int .u32 0, .int .u32 0, .int .u32 0, .int .u32 0, .int .u32 0, .int .u32 0, .int .u32 0]) (t := 38) ?hr ?_; (case hd => rfl); (case hg => rfl); (case hr => first | (go_simp; done) | (go_simp; rfl)); intro gb101 hg w2 hbox hb; have n0_ := Aside0.mk (below_step (by repeat (first | (with_reducible first | exact HB.out | apply below_alloc | apply pw_below_drewN | apply below_drew1) | exact HB.out)) hb); have n1_ := Aside0.mk (hbox); have n2_ := Aside0.mk ((by rw [hg]; exact (below_size (by repeat (first | (with_reducible first | exact HB.out | apply below_alloc | apply pw_below_drewN | apply below_drew1) | exact HB.out))) : w.heap.size ≤ gb101)); have n3_ := Aside0.mk ((by rw [hg]; exact (below_size (by repeat (first | (with_reducible first | exact HB.out | apply below_alloc | apply pw_below_drewN | apply below_drew1) | exact HB.out))) : w.heap.size ≤ gb101)); clear HB; have HB := n0_; have BK101 := n1_; have GW101 := n2_; have GE101 := n3_; clear n0_ n1_ n2_ n3_; clear hb hbox hg; have hcz3_0 : w2.cell? ⟨gb101, 0, none⟩ = some (.bool false) := (blk_cell BK101.out 0).trans rfl; have hcz3_1 : w2.cell? ⟨gb101, 1, none⟩ = some (.int .u32 0) := (blk_cell BK101.out 1).trans rfl; have hcz3_2 : w2.cell? ⟨gb101, 2, none⟩ = some (.int .u32 0) := (blk_cell BK101.out 2).trans rfl; have hcz3_3 : w2.cell? ⟨gb101, 3, none⟩ = some (.int .u32 0) := (blk_cell BK101.out 3).trans rfl; have hcz3_4 : w2.cell? ⟨gb101, 4, none⟩ = some (.int .u32 0) := (blk_cell BK101.out 4).trans rfl; have hcz3_5 : w2.cell? ⟨gb101, 5, none⟩ = some (.int .u32 0) := (blk_cell BK101.out 5).trans rfl; have hcz3_6 : w2.cell? ⟨gb101, 6, none⟩ = some (.int .u32 0) := (blk_cell BK101.out 6).trans rfl; have hcz3_7 : w2.cell? ⟨gb101, 7, none⟩ = some (.int .u32 0) := (blk_cell BK101.out 7).trans rfl; have hcz3_8 : w2.cell? ⟨gb101, 8, none⟩ = some (.int .u32 0) := (blk_cell BK101.out 8).trans rfl; have hcz3_9 : w2.cell? ⟨gb101, 9, none⟩ = some (.int .u32 0) := (blk_cell BK101.out 9).trans rfl; have hcz3_10 : w2.cell? ⟨gb101, 10, none⟩ = some (.int .u32 0) := (blk_cell BK101.out 10).trans rfl; have hfz3_0 := blk_frozen BK101.out 0; have hfz3_1 := blk_frozen BK101.out 1; have hfz3_2 := blk_frozen BK101.out 2; have hfz3_3 := blk_frozen BK101.out 3; have hfz3_4 := blk_frozen BK101.out 4; have hfz3_5 := blk_frozen BK101.out 5; have hfz3_6 := blk_frozen BK101.out 6; have hfz3_7 := blk_frozen BK101.out 7; have hfz3_8 := blk_frozen BK101.out 8; have hfz3_9 := blk_frozen BK101.out 9; have hfz3_10 := blk_frozen BK101.out 10))
  refine bodyPost_ret (results_cell_row rfl _ _ gb101 38 #[.bool false, .int .u32 0, .int .u32 0, .int .u32 0, .int .u32 0, .int .u32 0, .int .u32 0, .int .u32 0, .int .u32 0, .int .u32 0, .int .u32 ((a0) % 4294967296)] (0, 0) _ rfl (by (with_reducible repeat (first | refine blk_drewN ?_ _ | refine blk_drew ?_ | refine blk_alloc ?_ _)); refine blk_put (cs := #[.bool false, .int .u32 0, .int .u32 0, .int .u32 0, .int .u32 0, .int .u32 0, .int .u32 0, .int .u32 0, .int .u32 0, .int .u32 0, .int .u32 0]) ?_ 10 _ rfl; (with_reducible repeat (first | refine blk_drewN ?_ _ | refine blk_drew ?_ | refine blk_alloc ?_ _)); refine blk_put (cs := #[.bool false, .int .u32 0, .int .u32 0, .int .u32 0, .int .u32 0, .int .u32 0, .int .u32 0, .int .u32 0, .int .u32 0, .int .u32 0, .int .u32 0]) ?_ 9 _ rfl; (with_reducible repeat (first | refine blk_drewN ?_ _ | refine blk_drew ?_ | refine blk_alloc ?_ _)); refine blk_put (cs := #[.bool false, .int .u32 0, .int .u32 0, .int .u32 0, .int .u32 0, .int .u32 0, .int .u32 0, .int .u32 0, .int .u32 0, .int .u32 0, .int .u32 0]) ?_ 8 _ rfl; (with_reducible repeat (first | refine blk_drewN ?_ _ | refine blk_drew ?_ | refine blk_alloc ?_ _)); refine blk_put (cs := #[.bool false, .int .u32 0, .int .u32 0, .int .u32 0, .int .u32 0, .int .u32 0, .int .u32 0, .int .u32 0, .int .u32 0, .int .u32 0, .int .u32 0]) ?_ 7 _ rfl; (with_reducible repeat (first | refine blk_drewN ?_ _ | refine blk_drew ?_ | refine blk_alloc ?_ _)); refine blk_put (cs := #[.bool false, .int .u32 0, .int .u32 0, .int .u32 0, .int .u32 0, .int .u32 0, .int .u32 0, .int .u32 0, .int .u32 0, .int .u32 0, .int .u32 0]) ?_ 6 _ rfl; (with_reducible repeat (first | refine blk_drewN ?_ _ | refine blk_drew ?_ | refine blk_alloc ?_ _)); refine blk_put (cs := #[.bool false, .int .u32 0, .int .u32 0, .int .u32 0, .int .u32 0, .int .u32 0, .int .u32 0, .int .u32 0, .int .u32 0, .int .u32 0, .int .u32 0]) ?_ 5 _ rfl; (with_reducible repeat (first | refine blk_drewN ?_ _ | refine blk_drew ?_ | refine blk_alloc ?_ _)); refine blk_put (cs := #[.bool false, .int .u32 0, .int .u32 0, .int .u32 0, .int .u32 0, .int .u32 0, .int .u32 0, .int .u32 0, .int .u32 0, .int .u32 0, .int .u32 0]) ?_ 4 _ rfl; (with_reducible repeat (first | refine blk_drewN ?_ _ | refine blk_drew ?_ | refine blk_alloc ?_ _)); refine blk_put (cs := #[.bool false, .int .u32 0, .int .u32 0, .int .u32 0, .int .u32 0, .int .u32 0, .int .u32 0, .int .u32 0, .int .u32 0, .int .u32 0, .int .u32 0]) ?_ 3 _ rfl; (with_reducible repeat (first | refine blk_drewN ?_ _ | refine blk_drew ?_ | refine blk_alloc ?_ _)); refine blk_put (cs := #[.bool false, .int .u32 0, .int .u32 0, .int .u32 0, .int .u32 0, .int .u32 0, .int .u32 0, .int .u32 0, .int .u32 0, .int .u32 0, .int .u32 0]) ?_ 2 _ rfl; (with_reducible repeat (first | refine blk_drewN ?_ _ | refine blk_drew ?_ | refine blk_alloc ?_ _)); refine blk_put (cs := #[.bool false, .int .u32 0, .int .u32 0, .int .u32 0, .int .u32 0, .int .u32 0, .int .u32 0, .int .u32 0, .int .u32 0, .int .u32 0, .int .u32 0]) ?_ 1 _ rfl; (with_reducible repeat (first | refine blk_drewN ?_ _ | refine blk_drew ?_ | refine blk_alloc ?_ _)); refine blk_put (cs := #[.bool false, .int .u32 0, .int .u32 0, .int .u32 0, .int .u32 0, .int .u32 0, .int .u32 0, .int .u32 0, .int .u32 0, .int .u32 0, .int .u32 0]) ?_ 0 _ rfl; (with_reducible repeat (first | refine blk_drewN ?_ _ | refine blk_drew ?_ | refine blk_alloc ?_ _)); exact BK101.out) Try.underlying38 rfl (by kernel_rfl)) rfl ?_
  exact ⟨by first | rfl | (simp [errW_none, errW_some] <;> rfl) | (simp [*, errW_none, errW_some] <;> rfl), by repeat (first | (with_reducible first | exact HB.out | apply below_alloc | apply pw_below_drewN | apply below_drew1 | refine below_set ?_ GE101.out) | exact HB.out)⟩

/-! ### word_mask: function 51 -/
def word_mask.f (a0 : Int) : Option (Int) := if a0 ≥ 32 then (some 4294967295) else (some (((shl .u32 1 (mx a0 0)) - 1) % 4294967296))
set_option maxHeartbeats 8000000 in
set_option maxRecDepth 100000 in
theorem word_mask.calls (a0 : Int) (r : Int) (w : World) (h : word_mask.f a0 = some r) :
    Calls Try.prog 51 #[.int .i64 a0] w fun e w' => e = .returned (.int .u32 r) ∧ Below w.heap.size w w' := by
  have HB := Aside0.mk (Below.refl w.heap.size w)
  have H : (if a0 ≥ 32 then (some 4294967295) else (some (((shl .u32 1 (mx a0 0)) - 1) % 4294967296))) = some r := h
  clear h
  by_cases c2 : a0 ≥ 32
  · rw [if_pos c2] at H
    have c2b0 : decide (32 ≤ a0) = true := decide_eq_true c2
    clear c2
    obtain rfl := Option.some.inj H
    go_enter Try.func51, Try.ntmps51
    go_wp2
    go_ret
    exact ⟨by first | rfl | (simp [errW_none, errW_some] <;> rfl) | (simp [*, errW_none, errW_some] <;> rfl), by repeat (first | (with_reducible first | exact HB.out | apply below_alloc | apply pw_below_drewN | apply below_drew1) | exact HB.out)⟩
  · rw [if_neg c2] at H
    have c2b0 : decide (32 ≤ a0) = false := decide_eq_false c2
    clear c2
    obtain ⟨ji3, hji3⟩ : ∃ j_ : Int, (mx a0 0) = j_ := ⟨_, rfl⟩
    replace H : (some (((shl .u32 1 (ji3)) - 1) % 4294967296)) = some r := by first | (rw [hji3] at H; exact H) | (simp only [hji3] at H ⊢; exact H)
    (try (have hji3l : 0 ≤ ji3 := by (rw [← hji3]; unfold mx; (repeat' split) <;> omega)))
    (try (have hji3m : 0 ≤ ji3 := by omega))
    have hji3_ : (if a0 < 0 then 0 else a0) = ji3 := hji3
    obtain ⟨ji4, hji4⟩ : ∃ j_ : Int, (shl .u32 1 (ji3)) = j_ := ⟨_, rfl⟩
    replace H : (some (((ji4) - 1) % 4294967296)) = some r := by first | (rw [hji4] at H; exact H) | (simp only [hji4] at H ⊢; exact H)
    have hji4_ : (IntKind.u32.wrap (1 * 2 ^ min (ji3).toNat 32)) = ji4 := hji4
    have hji4z : (ji3) ≤ 32 → (IntKind.u32.wrap (1 * 2 ^ (ji3).toNat)) = ji4 := shl_small hji4
    have hji4u : (IntKind.u32.wrap (2 ^ min (ji3).toNat 32)) = ji4 := by have h_ := hji4_; rw [Int.one_mul] at h_; exact h_
    have hji4v : (ji3) ≤ 32 → (IntKind.u32.wrap (2 ^ (ji3).toNat)) = ji4 := fun hle_ => by have h_ := hji4z hle_; rw [Int.one_mul] at h_; exact h_
    obtain rfl := Option.some.inj H
    go_enter Try.func51, Try.ntmps51
    go_wp2
    go_ret
    exact ⟨by first | rfl | (simp [errW_none, errW_some] <;> rfl) | (simp only [← hji3, ← hji4]; first | rfl | (simp [errW_none, errW_some] <;> rfl)) | (simp [*, errW_none, errW_some] <;> rfl), by repeat (first | (with_reducible first | exact HB.out | apply below_alloc | apply pw_below_drewN | apply below_drew1) | exact HB.out)⟩

/-! ### word_Bits: function 42 -/
def word_Bits.f (a0 : Int) (a1 : Int) (a2 : Int) : Option (Int) := if a1 < 0 then (some 0) else (if a1 ≥ 32 then (some 0) else (if a2 < 1 then (some 0) else (if 0 ≤ a1 then ((word_mask.f a2).bind fun t102 => (some (Go.bits .and .u32 (shr .u32 a0 a1) t102))) else (none))))
set_option maxHeartbeats 8000000 in
set_option maxRecDepth 100000 in
theorem word_Bits.calls (a0 : Int) (a1 : Int) (a2 : Int) (r : Int) (w : World) (h : word_Bits.f a0 a1 a2 = some r) :
    Calls Try.prog 42 #[.int .u32 a0, .int .i64 a1, .int .i64 a2] w fun e w' => e = .returned (.int .u32 r) ∧ Below w.heap.size w w' := by
  have HB := Aside0.mk (Below.refl w.heap.size w)
  have H : (if a1 < 0 then (some 0) else (if a1 ≥ 32 then (some 0) else (if a2 < 1 then (some 0) else (if 0 ≤ a1 then ((word_mask.f a2).bind fun t102 => (some (Go.bits .and .u32 (shr .u32 a0 a1) t102))) else (none))))) = some r := h
  clear h
  by_cases c4 : a1 < 0
  · rw [if_pos c4] at H
    have c4b0 : decide (a1 < 0) = true := decide_eq_true c4
    clear c4
    obtain rfl := Option.some.inj H
    go_enter Try.func42, Try.ntmps42
    go_wp2
    go_ret
    exact ⟨by first | rfl | (simp [errW_none, errW_some] <;> rfl) | (simp [*, errW_none, errW_some] <;> rfl), by repeat (first | (with_reducible first | exact HB.out | apply below_alloc | apply pw_below_drewN | apply below_drew1) | exact HB.out)⟩
  · rw [if_neg c4] at H
    have c4b0 : decide (a1 < 0) = false := decide_eq_false c4
    clear c4
    by_cases c5 : a1 ≥ 32
    · rw [if_pos c5] at H
      have c5b0 : decide (32 ≤ a1) = true := decide_eq_true c5
      clear c5
      obtain rfl := Option.some.inj H
      go_enter Try.func42, Try.ntmps42
      go_wp2
      go_ret
      exact ⟨by first | rfl | (simp [errW_none, errW_some] <;> rfl) | (simp [*, errW_none, errW_some] <;> rfl), by repeat (first | (with_reducible first | exact HB.out | apply below_alloc | apply pw_below_drewN | apply below_drew1) | exact HB.out)⟩
    · rw [if_neg c5] at H
      have c5b0 : decide (32 ≤ a1) = false := decide_eq_false c5
      clear c5
      by_cases c6 : a2 < 1
      · rw [if_pos c6] at H
        have c6b0 : decide (a2 < 1) = true := decide_eq_true c6
        clear c6
        obtain rfl := Option.some.inj H
        go_enter Try.func42, Try.ntmps42
        go_wp2
        go_ret
        exact ⟨by first | rfl | (simp [errW_none, errW_some] <;> rfl) | (simp [*, errW_none, errW_some] <;> rfl), by repeat (first | (with_reducible first | exact HB.out | apply below_alloc | apply pw_below_drewN | apply below_drew1) | exact HB.out)⟩
      · rw [if_neg c6] at H
        have c6b0 : decide (a2 < 1) = false := decide_eq_false c6
        clear c6
        by_cases c7 : 0 ≤ a1
        · rw [if_pos c7] at H
          have c7b0 := eq_true c7
          have c7b1 : decide (0 ≤ a1) = true := decide_eq_true c7
          clear c7
          obtain ⟨ji8, hji8⟩ : ∃ j_ : Int, (shr .u32 a0 a1) = j_ := ⟨_, rfl⟩
          replace H : ((word_mask.f a2).bind fun t102 => (some (Go.bits .and .u32 (ji8) t102))) = some r := by first | (rw [hji8] at H; exact H) | (simp only [hji8] at H ⊢; exact H)
          have hji8_ : (a0 / 2 ^ min a1.toNat 32) = ji8 := hji8
          have hji8z : a1 ≤ 32 → (a0 / 2 ^ a1.toNat) = ji8 := shr_small hji8
          replace H := Option.bind_eq_some_iff.mp H
          obtain ⟨t102, A90, H⟩ := H
          replace H : (some (Go.bits .and .u32 (ji8) t102)) = some r := H
          have A9 := Aside0.mk A90
          clear A90
          obtain rfl := Option.some.inj H
          go_enter Try.func42, Try.ntmps42
          try go_wp2
          have n0_ := Aside0.mk (below_drew1 HB.out)
          clear HB
          have HB := n0_
          clear n0_
          refine start_ (n := 7) (S := fun w' => True) (ds := []) #[false, false, false, false, false, false, false] (by kernel_rfl) rfl rfl trivial (fun hHeld => ?_)
          generalize w.drew = w10 at HB hHeld ⊢
          refine pure_ (i := 0) (N := some 17) (v := ?_) (a' := ?_) #[true, false, false, false, false, false, false] rfl rfl (by kernel_rfl) (fun _ _ _ h => h) (Or.inl ⟨by rfl, ?_⟩) ?_ ?_
          rotate_left
          · intro w'
            go_simp
            with_reducible rfl
          rotate_left
          · simp only [Act.put, List.setIfInBounds_toArray, List.set_cons_zero, List.set_cons_succ, i64_w, i32_w]
            rfl
          refine pure_ (i := 1) (N := some 18) (v := ?_) (a' := ?_) #[true, true, false, false, false, false, false] rfl rfl (by kernel_rfl) (fun _ _ _ h => h) (Or.inl ⟨by rfl, ?_⟩) ?_ ?_
          rotate_left
          · intro w'
            go_simp
            with_reducible rfl
          rotate_left
          · simp only [Act.put, List.setIfInBounds_toArray, List.set_cons_zero, List.set_cons_succ, i64_w, i32_w]
            rfl
          refine pure_ (i := 2) (N := some 19) (v := ?_) (a' := ?_) #[true, true, true, false, false, false, false] rfl rfl (by kernel_rfl) (fun _ _ _ h => h) (Or.inl ⟨by rfl, ?_⟩) ?_ ?_
          rotate_left
          · intro w'
            go_simp
            with_reducible rfl
          rotate_left
          · simp only [Act.put, List.setIfInBounds_toArray, List.set_cons_zero, List.set_cons_succ, i64_w, i32_w]
            rfl
          refine pure_ (i := 3) (N := some 20) (v := ?_) (a' := ?_) #[true, true, true, true, false, false, false] rfl rfl (by kernel_rfl) (fun _ _ _ h => h) (Or.inl ⟨by rfl, ?_⟩) ?_ ?_
          rotate_left
          · intro w'
            go_simp
            with_reducible rfl
          rotate_left
          · simp only [Act.put, List.setIfInBounds_toArray, List.set_cons_zero, List.set_cons_succ, i64_w, i32_w]
            rfl
          refine one_ (i := 4) (N := some 21) #[true, true, true, true, true, false, false] rfl rfl (by kernel_rfl) (by decide) (fun K hK => ?_)
          refine goes_ Try.func51 (by kernel_rfl) rfl #[.int .i64 a2] (by rfl) rfl rfl (by (try simp only [List.map_toArray, List.map_cons, List.map_nil]); first | done | rfl | (simp only [List.length_drop, List.length_take]; rfl)) ?_
          with_reducible refine (word_mask.calls a2 t102 _ A9.out).mono ?_
          rintro e w11 ⟨rfl, hb⟩
          refine ⟨_, rfl, ?_⟩
          have n0_ := Aside0.mk (below_step (by repeat (first | (with_reducible first | exact HB.out | apply below_alloc | apply pw_below_drewN | apply below_drew1) | exact HB.out)) hb)
          clear HB
          have HB := n0_
          clear n0_
          (try clear hb)
          (try clear hb2)
          (try clear hk)
          (try clear hi)
          refine hK.out _ _ trivial (fun hHeld => ?_)
          clear hK K
          refine norm_ (a' := ?_) ?_ ?_
          rotate_left
          · show Act.put _ (some 21) _ = _
            simp only [Act.put, List.setIfInBounds_toArray, List.set_cons_zero, List.set_cons_succ, i64_w, i32_w]
            rfl
          refine pure_ (i := 5) (N := some 22) (v := ?_) (a' := ?_) #[true, true, true, true, true, true, false] rfl rfl (by kernel_rfl) (fun _ _ _ h => h) (Or.inl ⟨by rfl, ?_⟩) ?_ ?_
          rotate_left
          · intro w'
            go_simp
            with_reducible rfl
          rotate_left
          · simp only [Act.put, List.setIfInBounds_toArray, List.set_cons_zero, List.set_cons_succ, i64_w, i32_w]
            rfl
          refine pure_ (i := 6) (N := some 6) (v := ?_) (a' := ?_) #[true, true, true, true, true, true, true] rfl rfl (by kernel_rfl) (fun _ _ _ h => h) (Or.inl ⟨by rfl, ?_⟩) ?_ ?_
          rotate_left
          · intro w'
            go_simp
            with_reducible rfl
          rotate_left
          · simp only [Act.put, List.setIfInBounds_toArray, List.set_cons_zero, List.set_cons_succ, i64_w, i32_w]
            rfl
          refine done_ (by kernel_rfl) ?_
          try go_wp2
          go_ret
          exact ⟨by first | rfl | (simp [errW_none, errW_some] <;> rfl) | (simp only [← hji8]; first | rfl | (simp [errW_none, errW_some] <;> rfl)) | (simp [*, errW_none, errW_some] <;> rfl), by repeat (first | (with_reducible first | exact HB.out | apply below_alloc | apply pw_below_drewN | apply below_drew1) | exact HB.out)⟩
        · rw [if_neg c7] at H
          exact absurd H (by simp)

-- NOT PRINTED: function 48 (csr_File_at)

/-- A state of type 38 at block g of W; what its slices lead to came in by w0. -/
def IsS38 (w0 W : World) (g : Nat) (f0 : Bool) (f1 : Int) (f2 : Int) (f3 : Int) (f4 : Int) (f5 : Int) (f6 : Int) (f7 : Int) (f8 : Int) (f9 : Int) (f10 : Int) : Prop := W.heap[g]? = some (.cells #[.bool f0, .int .u32 f1, .int .u32 f2, .int .u32 f3, .int .u32 f4, .int .u32 f5, .int .u32 f6, .int .u32 f7, .int .u32 f8, .int .u32 f9, .int .u32 f10] 38 (0, 0)) ∧ w0.heap.size ≤ g
theorem IsS38.grown {w0 W : World} {g : Nat} {f0 : Bool} {f1 : Int} {f2 : Int} {f3 : Int} {f4 : Int} {f5 : Int} {f6 : Int} {f7 : Int} {f8 : Int} {f9 : Int} {f10 : Int} {W1 : World} {row : Option Nat} (h : IsS38 w0 W g f0 f1 f2 f3 f4 f5 f6 f7 f8 f9 f10) (hw : W.grownBy W1 row) (hne : some g ≠ row) : IsS38 w0 W1 g f0 f1 f2 f3 f4 f5 f6 f7 f8 f9 f10 := by
  obtain ⟨hb, hg⟩ := h
  exact ⟨blk_grown hb hw hne, hg⟩
theorem IsS38.own_neN {w0 W : World} {g : Nat} {f0 : Bool} {f1 : Int} {f2 : Int} {f3 : Int} {f4 : Int} {f5 : Int} {f6 : Int} {f7 : Int} {f8 : Int} {f9 : Int} {f10 : Int} {α : Type} {d : Kd α} {e : Nat} {base : Nat} {ok : Nat → Prop} {v : Value} {xs : List α} (h : IsS38 w0 W g f0 f1 f2 f3 f4 f5 f6 f7 f8 f9 f10) (ho : Kd.N d e W base ok v xs) (ht : e ≠ 38) : some g ≠ v.ownBlock := by
  obtain ⟨hb, hg⟩ := h
  exact Kd.N_ne ho hb ht
theorem IsS38.fresh {w0 W : World} {g : Nat} {f0 : Bool} {f1 : Int} {f2 : Int} {f3 : Int} {f4 : Int} {f5 : Int} {f6 : Int} {f7 : Int} {f8 : Int} {f9 : Int} {f10 : Int} (h : IsS38 w0 W g f0 f1 f2 f3 f4 f5 f6 f7 f8 f9 f10) : ∀ k, W.heap.size ≤ k → k ≠ g := by
  obtain ⟨hb, hg⟩ := h
  exact Kd.freshB hb
theorem IsS38.kept {w0 W : World} {g : Nat} {f0 : Bool} {f1 : Int} {f2 : Int} {f3 : Int} {f4 : Int} {f5 : Int} {f6 : Int} {f7 : Int} {f8 : Int} {f9 : Int} {f10 : Int} {W1 : World} {S : Nat → Prop} (h : IsS38 w0 W g f0 f1 f2 f3 f4 f5 f6 f7 f8 f9 f10) (hk : Kept W W1 S) (hne : ¬ S g) : IsS38 w0 W1 g f0 f1 f2 f3 f4 f5 f6 f7 f8 f9 f10 := by
  obtain ⟨hb, hg⟩ := h
  exact ⟨blk_kept hb hk hne, hg⟩
theorem IsS38.below {w0 W : World} {g : Nat} {f0 : Bool} {f1 : Int} {f2 : Int} {f3 : Int} {f4 : Int} {f5 : Int} {f6 : Int} {f7 : Int} {f8 : Int} {f9 : Int} {f10 : Int} {W1 : World} (h : IsS38 w0 W g f0 f1 f2 f3 f4 f5 f6 f7 f8 f9 f10) (hw : Below W.heap.size W W1) : IsS38 w0 W1 g f0 f1 f2 f3 f4 f5 f6 f7 f8 f9 f10 := h.grown (grown_of_below hw none) (by simp)
theorem IsS38.alloc {w0 W : World} {g : Nat} {f0 : Bool} {f1 : Int} {f2 : Int} {f3 : Int} {f4 : Int} {f5 : Int} {f6 : Int} {f7 : Int} {f8 : Int} {f9 : Int} {f10 : Int} (h : IsS38 w0 W g f0 f1 f2 f3 f4 f5 f6 f7 f8 f9 f10) (o : Obj) : IsS38 w0 (W.alloc o) g f0 f1 f2 f3 f4 f5 f6 f7 f8 f9 f10 := h.below (below_alloc (Below.refl _ _) o)
theorem IsS38.drewN {w0 W : World} {g : Nat} {f0 : Bool} {f1 : Int} {f2 : Int} {f3 : Int} {f4 : Int} {f5 : Int} {f6 : Int} {f7 : Int} {f8 : Int} {f9 : Int} {f10 : Int} (h : IsS38 w0 W g f0 f1 f2 f3 f4 f5 f6 f7 f8 f9 f10) (m : Nat) : IsS38 w0 (W.drewN m) g f0 f1 f2 f3 f4 f5 f6 f7 f8 f9 f10 := h
theorem IsS38.drew {w0 W : World} {g : Nat} {f0 : Bool} {f1 : Int} {f2 : Int} {f3 : Int} {f4 : Int} {f5 : Int} {f6 : Int} {f7 : Int} {f8 : Int} {f9 : Int} {f10 : Int} (h : IsS38 w0 W g f0 f1 f2 f3 f4 f5 f6 f7 f8 f9 f10) : IsS38 w0 W.drew g f0 f1 f2 f3 f4 f5 f6 f7 f8 f9 f10 := h
theorem IsS38.at_ {w0 W : World} {g : Nat} {f0 : Bool} {f1 : Int} {f2 : Int} {f3 : Int} {f4 : Int} {f5 : Int} {f6 : Int} {f7 : Int} {f8 : Int} {f9 : Int} {f10 : Int} {w' : World} {m : Nat} (hq : W.drewN m = w') (h : IsS38 w0 W g f0 f1 f2 f3 f4 f5 f6 f7 f8 f9 f10) : IsS38 w0 w' g f0 f1 f2 f3 f4 f5 f6 f7 f8 f9 f10 := by subst hq; exact IsS38.drewN h m
theorem IsS38.apart {w0 W : World} {g : Nat} {f0 : Bool} {f1 : Int} {f2 : Int} {f3 : Int} {f4 : Int} {f5 : Int} {f6 : Int} {f7 : Int} {f8 : Int} {f9 : Int} {f10 : Int} {α : Type} {d : Kd α} {e : Nat} {base : Nat} {ok : Nat → Prop} {v : Value} {xs : List α} (h : IsS38 w0 W g f0 f1 f2 f3 f4 f5 f6 f7 f8 f9 f10) (ho : d.R e W base ok v xs) (ht : ∀ q, q ∈ e :: d.E → q ≠ 38) : d.R e W base (fun k => ok k ∧ k ≠ g) v xs := by
  obtain ⟨hb, hg⟩ := h
  exact Kd.R_types ho hb ht
theorem IsS38.own_ne {w0 W : World} {g : Nat} {f0 : Bool} {f1 : Int} {f2 : Int} {f3 : Int} {f4 : Int} {f5 : Int} {f6 : Int} {f7 : Int} {f8 : Int} {f9 : Int} {f10 : Int} {α : Type} {d : Kd α} {e : Nat} {base : Nat} {ok : Nat → Prop} {v : Value} {xs : List α} (h : IsS38 w0 W g f0 f1 f2 f3 f4 f5 f6 f7 f8 f9 f10) (ho : d.R e W base ok v xs) (ht : e ≠ 38) : some g ≠ v.ownBlock := by
  obtain ⟨hb, hg⟩ := h
  exact Kd.R_ne ho hb ht
theorem IsS38.apartQ {w0 W : World} {g : Nat} {f0 : Bool} {f1 : Int} {f2 : Int} {f3 : Int} {f4 : Int} {f5 : Int} {f6 : Int} {f7 : Int} {f8 : Int} {f9 : Int} {f10 : Int} {α : Type} {d : Kd α} {e : Nat} {base : Nat} {ok : Nat → Prop} {v : Value} {xs : List α} (h : IsS38 w0 W g f0 f1 f2 f3 f4 f5 f6 f7 f8 f9 f10) (ho : d.Q e W base ok v xs) (ht : ∀ q, q ∈ e :: d.E → q ≠ 38) : d.Q e W base (fun k => ok k ∧ k ≠ g) v xs := by
  obtain ⟨hb, hg⟩ := h
  exact Kd.Q_types ho hb ht
theorem IsS38.own_neQ {w0 W : World} {g : Nat} {f0 : Bool} {f1 : Int} {f2 : Int} {f3 : Int} {f4 : Int} {f5 : Int} {f6 : Int} {f7 : Int} {f8 : Int} {f9 : Int} {f10 : Int} {α : Type} {d : Kd α} {e : Nat} {base : Nat} {ok : Nat → Prop} {v : Value} {xs : List α} (h : IsS38 w0 W g f0 f1 f2 f3 f4 f5 f6 f7 f8 f9 f10) (ho : d.Q e W base ok v xs) (ht : e ≠ 38) : some g ≠ v.ownBlock := by
  obtain ⟨hb, hg⟩ := h
  exact Kd.Q_ne ho hb ht
theorem IsS38.apartS {w0 W : World} {g : Nat} {f0 : Bool} {f1 : Int} {f2 : Int} {f3 : Int} {f4 : Int} {f5 : Int} {f6 : Int} {f7 : Int} {f8 : Int} {f9 : Int} {f10 : Int} {α : Type} {d : Kd α} {e : Nat} {base : Nat} {ok : Nat → Prop} {v : Value} {xs : List α} (h : IsS38 w0 W g f0 f1 f2 f3 f4 f5 f6 f7 f8 f9 f10) (ho : d.S e W base ok v xs) (ht : ∀ q, q ∈ e :: d.E → q ≠ 38) : d.S e W base (fun k => ok k ∧ k ≠ g) v xs := by
  obtain ⟨hb, hg⟩ := h
  exact Kd.S_types ho hb ht
theorem IsS38.own_neS {w0 W : World} {g : Nat} {f0 : Bool} {f1 : Int} {f2 : Int} {f3 : Int} {f4 : Int} {f5 : Int} {f6 : Int} {f7 : Int} {f8 : Int} {f9 : Int} {f10 : Int} {α : Type} {d : Kd α} {e : Nat} {base : Nat} {ok : Nat → Prop} {v : Value} {xs : List α} (h : IsS38 w0 W g f0 f1 f2 f3 f4 f5 f6 f7 f8 f9 f10) (ho : d.S e W base ok v xs) (ht : e ≠ 38) : some g ≠ v.ownBlock := by
  obtain ⟨hb, hg⟩ := h
  exact Kd.S_ne ho hb ht
theorem IsS38.lt {w0 W : World} {g : Nat} {f0 : Bool} {f1 : Int} {f2 : Int} {f3 : Int} {f4 : Int} {f5 : Int} {f6 : Int} {f7 : Int} {f8 : Int} {f9 : Int} {f10 : Int} (h : IsS38 w0 W g f0 f1 f2 f3 f4 f5 f6 f7 f8 f9 f10) : g < W.heap.size := by
  obtain ⟨hb, hg⟩ := h
  exact blk_lt hb
theorem IsS38.ge {w0 W : World} {g : Nat} {f0 : Bool} {f1 : Int} {f2 : Int} {f3 : Int} {f4 : Int} {f5 : Int} {f6 : Int} {f7 : Int} {f8 : Int} {f9 : Int} {f10 : Int} (h : IsS38 w0 W g f0 f1 f2 f3 f4 f5 f6 f7 f8 f9 f10) : w0.heap.size ≤ g := by
  obtain ⟨hb, hg⟩ := h
  exact hg
theorem IsS38.ne_blk {w0 W : World} {g : Nat} {f0 : Bool} {f1 : Int} {f2 : Int} {f3 : Int} {f4 : Int} {f5 : Int} {f6 : Int} {f7 : Int} {f8 : Int} {f9 : Int} {f10 : Int} {a : Nat} {cs : Array Value} {t : TypeId} {fr : Nat × Nat} (h : IsS38 w0 W g f0 f1 f2 f3 f4 f5 f6 f7 f8 f9 f10) (hb2 : W.heap[a]? = some (.cells cs t fr)) (ht : t ≠ 38) : g ≠ a := by
  obtain ⟨hb, hg⟩ := h
  rintro rfl
  rw [hb] at hb2
  injection hb2 with hb2
  injection hb2 with _ ht2
  exact ht ht2.symm
theorem IsS38.far {w0 W : World} {g : Nat} {f0 : Bool} {f1 : Int} {f2 : Int} {f3 : Int} {f4 : Int} {f5 : Int} {f6 : Int} {f7 : Int} {f8 : Int} {f9 : Int} {f10 : Int} {p : Addr} (h : IsS38 w0 W g f0 f1 f2 f3 f4 f5 f6 f7 f8 f9 f10) (hne : g ≠ p.block) (u : Value) : IsS38 w0 (W.setCell p u) g f0 f1 f2 f3 f4 f5 f6 f7 f8 f9 f10 := by
  obtain ⟨hb, hg⟩ := h
  exact ⟨blk_far hb hne u, hg⟩
theorem cellS38_0 {W : World} {g : Nat} {f0 : Bool} {f1 : Int} {f2 : Int} {f3 : Int} {f4 : Int} {f5 : Int} {f6 : Int} {f7 : Int} {f8 : Int} {f9 : Int} {f10 : Int} (h : W.heap[g]? = some (.cells #[.bool f0, .int .u32 f1, .int .u32 f2, .int .u32 f3, .int .u32 f4, .int .u32 f5, .int .u32 f6, .int .u32 f7, .int .u32 f8, .int .u32 f9, .int .u32 f10] 38 (0, 0))) : W.cell? ⟨g, 0, none⟩ = some (.bool f0) := (blk_cell h 0).trans rfl
theorem IsS38.set_0 {w0 W : World} {g : Nat} {f0 : Bool} {f1 : Int} {f2 : Int} {f3 : Int} {f4 : Int} {f5 : Int} {f6 : Int} {f7 : Int} {f8 : Int} {f9 : Int} {f10 : Int} (h : IsS38 w0 W g f0 f1 f2 f3 f4 f5 f6 f7 f8 f9 f10) (x : Bool) : IsS38 w0 (W.setCell ⟨g, 0, none⟩ (.bool x)) g x f1 f2 f3 f4 f5 f6 f7 f8 f9 f10 := by
  obtain ⟨hb, hg⟩ := h
  exact ⟨by simpa using blk_set hb 0 (.bool x), hg⟩
theorem cellS38_1 {W : World} {g : Nat} {f0 : Bool} {f1 : Int} {f2 : Int} {f3 : Int} {f4 : Int} {f5 : Int} {f6 : Int} {f7 : Int} {f8 : Int} {f9 : Int} {f10 : Int} (h : W.heap[g]? = some (.cells #[.bool f0, .int .u32 f1, .int .u32 f2, .int .u32 f3, .int .u32 f4, .int .u32 f5, .int .u32 f6, .int .u32 f7, .int .u32 f8, .int .u32 f9, .int .u32 f10] 38 (0, 0))) : W.cell? ⟨g, 1, none⟩ = some (.int .u32 f1) := (blk_cell h 1).trans rfl
theorem IsS38.set_1 {w0 W : World} {g : Nat} {f0 : Bool} {f1 : Int} {f2 : Int} {f3 : Int} {f4 : Int} {f5 : Int} {f6 : Int} {f7 : Int} {f8 : Int} {f9 : Int} {f10 : Int} (h : IsS38 w0 W g f0 f1 f2 f3 f4 f5 f6 f7 f8 f9 f10) (x : Int) : IsS38 w0 (W.setCell ⟨g, 1, none⟩ (.int .u32 x)) g f0 x f2 f3 f4 f5 f6 f7 f8 f9 f10 := by
  obtain ⟨hb, hg⟩ := h
  exact ⟨by simpa using blk_set hb 1 (.int .u32 x), hg⟩
theorem cellS38_2 {W : World} {g : Nat} {f0 : Bool} {f1 : Int} {f2 : Int} {f3 : Int} {f4 : Int} {f5 : Int} {f6 : Int} {f7 : Int} {f8 : Int} {f9 : Int} {f10 : Int} (h : W.heap[g]? = some (.cells #[.bool f0, .int .u32 f1, .int .u32 f2, .int .u32 f3, .int .u32 f4, .int .u32 f5, .int .u32 f6, .int .u32 f7, .int .u32 f8, .int .u32 f9, .int .u32 f10] 38 (0, 0))) : W.cell? ⟨g, 2, none⟩ = some (.int .u32 f2) := (blk_cell h 2).trans rfl
theorem IsS38.set_2 {w0 W : World} {g : Nat} {f0 : Bool} {f1 : Int} {f2 : Int} {f3 : Int} {f4 : Int} {f5 : Int} {f6 : Int} {f7 : Int} {f8 : Int} {f9 : Int} {f10 : Int} (h : IsS38 w0 W g f0 f1 f2 f3 f4 f5 f6 f7 f8 f9 f10) (x : Int) : IsS38 w0 (W.setCell ⟨g, 2, none⟩ (.int .u32 x)) g f0 f1 x f3 f4 f5 f6 f7 f8 f9 f10 := by
  obtain ⟨hb, hg⟩ := h
  exact ⟨by simpa using blk_set hb 2 (.int .u32 x), hg⟩
theorem cellS38_3 {W : World} {g : Nat} {f0 : Bool} {f1 : Int} {f2 : Int} {f3 : Int} {f4 : Int} {f5 : Int} {f6 : Int} {f7 : Int} {f8 : Int} {f9 : Int} {f10 : Int} (h : W.heap[g]? = some (.cells #[.bool f0, .int .u32 f1, .int .u32 f2, .int .u32 f3, .int .u32 f4, .int .u32 f5, .int .u32 f6, .int .u32 f7, .int .u32 f8, .int .u32 f9, .int .u32 f10] 38 (0, 0))) : W.cell? ⟨g, 3, none⟩ = some (.int .u32 f3) := (blk_cell h 3).trans rfl
theorem IsS38.set_3 {w0 W : World} {g : Nat} {f0 : Bool} {f1 : Int} {f2 : Int} {f3 : Int} {f4 : Int} {f5 : Int} {f6 : Int} {f7 : Int} {f8 : Int} {f9 : Int} {f10 : Int} (h : IsS38 w0 W g f0 f1 f2 f3 f4 f5 f6 f7 f8 f9 f10) (x : Int) : IsS38 w0 (W.setCell ⟨g, 3, none⟩ (.int .u32 x)) g f0 f1 f2 x f4 f5 f6 f7 f8 f9 f10 := by
  obtain ⟨hb, hg⟩ := h
  exact ⟨by simpa using blk_set hb 3 (.int .u32 x), hg⟩
theorem cellS38_4 {W : World} {g : Nat} {f0 : Bool} {f1 : Int} {f2 : Int} {f3 : Int} {f4 : Int} {f5 : Int} {f6 : Int} {f7 : Int} {f8 : Int} {f9 : Int} {f10 : Int} (h : W.heap[g]? = some (.cells #[.bool f0, .int .u32 f1, .int .u32 f2, .int .u32 f3, .int .u32 f4, .int .u32 f5, .int .u32 f6, .int .u32 f7, .int .u32 f8, .int .u32 f9, .int .u32 f10] 38 (0, 0))) : W.cell? ⟨g, 4, none⟩ = some (.int .u32 f4) := (blk_cell h 4).trans rfl
theorem IsS38.set_4 {w0 W : World} {g : Nat} {f0 : Bool} {f1 : Int} {f2 : Int} {f3 : Int} {f4 : Int} {f5 : Int} {f6 : Int} {f7 : Int} {f8 : Int} {f9 : Int} {f10 : Int} (h : IsS38 w0 W g f0 f1 f2 f3 f4 f5 f6 f7 f8 f9 f10) (x : Int) : IsS38 w0 (W.setCell ⟨g, 4, none⟩ (.int .u32 x)) g f0 f1 f2 f3 x f5 f6 f7 f8 f9 f10 := by
  obtain ⟨hb, hg⟩ := h
  exact ⟨by simpa using blk_set hb 4 (.int .u32 x), hg⟩
theorem cellS38_5 {W : World} {g : Nat} {f0 : Bool} {f1 : Int} {f2 : Int} {f3 : Int} {f4 : Int} {f5 : Int} {f6 : Int} {f7 : Int} {f8 : Int} {f9 : Int} {f10 : Int} (h : W.heap[g]? = some (.cells #[.bool f0, .int .u32 f1, .int .u32 f2, .int .u32 f3, .int .u32 f4, .int .u32 f5, .int .u32 f6, .int .u32 f7, .int .u32 f8, .int .u32 f9, .int .u32 f10] 38 (0, 0))) : W.cell? ⟨g, 5, none⟩ = some (.int .u32 f5) := (blk_cell h 5).trans rfl
theorem IsS38.set_5 {w0 W : World} {g : Nat} {f0 : Bool} {f1 : Int} {f2 : Int} {f3 : Int} {f4 : Int} {f5 : Int} {f6 : Int} {f7 : Int} {f8 : Int} {f9 : Int} {f10 : Int} (h : IsS38 w0 W g f0 f1 f2 f3 f4 f5 f6 f7 f8 f9 f10) (x : Int) : IsS38 w0 (W.setCell ⟨g, 5, none⟩ (.int .u32 x)) g f0 f1 f2 f3 f4 x f6 f7 f8 f9 f10 := by
  obtain ⟨hb, hg⟩ := h
  exact ⟨by simpa using blk_set hb 5 (.int .u32 x), hg⟩
theorem cellS38_6 {W : World} {g : Nat} {f0 : Bool} {f1 : Int} {f2 : Int} {f3 : Int} {f4 : Int} {f5 : Int} {f6 : Int} {f7 : Int} {f8 : Int} {f9 : Int} {f10 : Int} (h : W.heap[g]? = some (.cells #[.bool f0, .int .u32 f1, .int .u32 f2, .int .u32 f3, .int .u32 f4, .int .u32 f5, .int .u32 f6, .int .u32 f7, .int .u32 f8, .int .u32 f9, .int .u32 f10] 38 (0, 0))) : W.cell? ⟨g, 6, none⟩ = some (.int .u32 f6) := (blk_cell h 6).trans rfl
theorem IsS38.set_6 {w0 W : World} {g : Nat} {f0 : Bool} {f1 : Int} {f2 : Int} {f3 : Int} {f4 : Int} {f5 : Int} {f6 : Int} {f7 : Int} {f8 : Int} {f9 : Int} {f10 : Int} (h : IsS38 w0 W g f0 f1 f2 f3 f4 f5 f6 f7 f8 f9 f10) (x : Int) : IsS38 w0 (W.setCell ⟨g, 6, none⟩ (.int .u32 x)) g f0 f1 f2 f3 f4 f5 x f7 f8 f9 f10 := by
  obtain ⟨hb, hg⟩ := h
  exact ⟨by simpa using blk_set hb 6 (.int .u32 x), hg⟩
theorem cellS38_7 {W : World} {g : Nat} {f0 : Bool} {f1 : Int} {f2 : Int} {f3 : Int} {f4 : Int} {f5 : Int} {f6 : Int} {f7 : Int} {f8 : Int} {f9 : Int} {f10 : Int} (h : W.heap[g]? = some (.cells #[.bool f0, .int .u32 f1, .int .u32 f2, .int .u32 f3, .int .u32 f4, .int .u32 f5, .int .u32 f6, .int .u32 f7, .int .u32 f8, .int .u32 f9, .int .u32 f10] 38 (0, 0))) : W.cell? ⟨g, 7, none⟩ = some (.int .u32 f7) := (blk_cell h 7).trans rfl
theorem IsS38.set_7 {w0 W : World} {g : Nat} {f0 : Bool} {f1 : Int} {f2 : Int} {f3 : Int} {f4 : Int} {f5 : Int} {f6 : Int} {f7 : Int} {f8 : Int} {f9 : Int} {f10 : Int} (h : IsS38 w0 W g f0 f1 f2 f3 f4 f5 f6 f7 f8 f9 f10) (x : Int) : IsS38 w0 (W.setCell ⟨g, 7, none⟩ (.int .u32 x)) g f0 f1 f2 f3 f4 f5 f6 x f8 f9 f10 := by
  obtain ⟨hb, hg⟩ := h
  exact ⟨by simpa using blk_set hb 7 (.int .u32 x), hg⟩
theorem cellS38_8 {W : World} {g : Nat} {f0 : Bool} {f1 : Int} {f2 : Int} {f3 : Int} {f4 : Int} {f5 : Int} {f6 : Int} {f7 : Int} {f8 : Int} {f9 : Int} {f10 : Int} (h : W.heap[g]? = some (.cells #[.bool f0, .int .u32 f1, .int .u32 f2, .int .u32 f3, .int .u32 f4, .int .u32 f5, .int .u32 f6, .int .u32 f7, .int .u32 f8, .int .u32 f9, .int .u32 f10] 38 (0, 0))) : W.cell? ⟨g, 8, none⟩ = some (.int .u32 f8) := (blk_cell h 8).trans rfl
theorem IsS38.set_8 {w0 W : World} {g : Nat} {f0 : Bool} {f1 : Int} {f2 : Int} {f3 : Int} {f4 : Int} {f5 : Int} {f6 : Int} {f7 : Int} {f8 : Int} {f9 : Int} {f10 : Int} (h : IsS38 w0 W g f0 f1 f2 f3 f4 f5 f6 f7 f8 f9 f10) (x : Int) : IsS38 w0 (W.setCell ⟨g, 8, none⟩ (.int .u32 x)) g f0 f1 f2 f3 f4 f5 f6 f7 x f9 f10 := by
  obtain ⟨hb, hg⟩ := h
  exact ⟨by simpa using blk_set hb 8 (.int .u32 x), hg⟩
theorem cellS38_9 {W : World} {g : Nat} {f0 : Bool} {f1 : Int} {f2 : Int} {f3 : Int} {f4 : Int} {f5 : Int} {f6 : Int} {f7 : Int} {f8 : Int} {f9 : Int} {f10 : Int} (h : W.heap[g]? = some (.cells #[.bool f0, .int .u32 f1, .int .u32 f2, .int .u32 f3, .int .u32 f4, .int .u32 f5, .int .u32 f6, .int .u32 f7, .int .u32 f8, .int .u32 f9, .int .u32 f10] 38 (0, 0))) : W.cell? ⟨g, 9, none⟩ = some (.int .u32 f9) := (blk_cell h 9).trans rfl
theorem IsS38.set_9 {w0 W : World} {g : Nat} {f0 : Bool} {f1 : Int} {f2 : Int} {f3 : Int} {f4 : Int} {f5 : Int} {f6 : Int} {f7 : Int} {f8 : Int} {f9 : Int} {f10 : Int} (h : IsS38 w0 W g f0 f1 f2 f3 f4 f5 f6 f7 f8 f9 f10) (x : Int) : IsS38 w0 (W.setCell ⟨g, 9, none⟩ (.int .u32 x)) g f0 f1 f2 f3 f4 f5 f6 f7 f8 x f10 := by
  obtain ⟨hb, hg⟩ := h
  exact ⟨by simpa using blk_set hb 9 (.int .u32 x), hg⟩
theorem cellS38_10 {W : World} {g : Nat} {f0 : Bool} {f1 : Int} {f2 : Int} {f3 : Int} {f4 : Int} {f5 : Int} {f6 : Int} {f7 : Int} {f8 : Int} {f9 : Int} {f10 : Int} (h : W.heap[g]? = some (.cells #[.bool f0, .int .u32 f1, .int .u32 f2, .int .u32 f3, .int .u32 f4, .int .u32 f5, .int .u32 f6, .int .u32 f7, .int .u32 f8, .int .u32 f9, .int .u32 f10] 38 (0, 0))) : W.cell? ⟨g, 10, none⟩ = some (.int .u32 f10) := (blk_cell h 10).trans rfl
theorem IsS38.set_10 {w0 W : World} {g : Nat} {f0 : Bool} {f1 : Int} {f2 : Int} {f3 : Int} {f4 : Int} {f5 : Int} {f6 : Int} {f7 : Int} {f8 : Int} {f9 : Int} {f10 : Int} (h : IsS38 w0 W g f0 f1 f2 f3 f4 f5 f6 f7 f8 f9 f10) (x : Int) : IsS38 w0 (W.setCell ⟨g, 10, none⟩ (.int .u32 x)) g f0 f1 f2 f3 f4 f5 f6 f7 f8 f9 x := by
  obtain ⟨hb, hg⟩ := h
  exact ⟨by simpa using blk_set hb 10 (.int .u32 x), hg⟩
theorem IsS38.new (w0 W : World) (f0 : Bool) (f1 : Int) (f2 : Int) (f3 : Int) (f4 : Int) (f5 : Int) (f6 : Int) (f7 : Int) (f8 : Int) (f9 : Int) (f10 : Int) (hB : Below w0.heap.size w0 W) : IsS38 w0 (W.alloc (.cells #[.bool f0, .int .u32 f1, .int .u32 f2, .int .u32 f3, .int .u32 f4, .int .u32 f5, .int .u32 f6, .int .u32 f7, .int .u32 f8, .int .u32 f9, .int .u32 f10] 38)) W.heap.size f0 f1 f2 f3 f4 f5 f6 f7 f8 f9 f10 := ⟨by simpa using heap_alloc_new W _, hB.size⟩

/-! ### csr_File_at: function 48 -/
def atP (g : Nat) (n : Int) : Option Addr := if (n == 384) = true then some ⟨g, 1, none⟩ else if (n == 768) = true then some ⟨g, 2, none⟩ else if (n == 772) = true then some ⟨g, 3, none⟩ else if (n == 773) = true then some ⟨g, 4, none⟩ else if (n == 832) = true then some ⟨g, 5, none⟩ else if (n == 833) = true then some ⟨g, 6, none⟩ else if (n == 834) = true then some ⟨g, 7, none⟩ else if (n == 835) = true then some ⟨g, 8, none⟩ else if (n == 836) = true then some ⟨g, 9, none⟩ else if (n == 3860) = true then some ⟨g, 10, none⟩ else none
set_option maxHeartbeats 8000000 in
set_option maxRecDepth 100000 in
theorem csr_File_at.calls (g : Nat) (a1 : Int) (p : Option Addr) (w : World) (h : atP g a1 = p) :
    Calls Try.prog 48 #[.pointer (some ⟨g, 0, none⟩), .int .i64 a1] w fun e w' => e = .returned (.pointer p) ∧ Drawn0 w w' := by
  have hu38 := Try.underlying38
  by_cases c0 : a1 = 384
  · have c0b0 : (a1 == 384) = true := beq_iff_eq.mpr c0
    have e_ : p = some ⟨g, 1, none⟩ := by rw [← h]; unfold atP; simp only [c0b0, Bool.false_eq_true, if_true, if_false]
    subst e_
    clear h
    go_enter Try.func48, Try.ntmps48
    go_wp2
    go_ret
    exact ⟨by first | rfl | (simp; done) | (simp [*]; done), by repeat (first | exact Drawn0.refl _ | apply Drawn0.step)⟩
  · have c0b0 : (a1 == 384) = false := beq_eq_false_iff_ne.mpr c0
    by_cases c1 : a1 = 768
    · have c1b0 : (a1 == 768) = true := beq_iff_eq.mpr c1
      have e_ : p = some ⟨g, 2, none⟩ := by rw [← h]; unfold atP; simp only [c0b0, c1b0, Bool.false_eq_true, if_true, if_false]
      subst e_
      clear h
      go_enter Try.func48, Try.ntmps48
      go_wp2
      go_ret
      exact ⟨by first | rfl | (simp; done) | (simp [*]; done), by repeat (first | exact Drawn0.refl _ | apply Drawn0.step)⟩
    · have c1b0 : (a1 == 768) = false := beq_eq_false_iff_ne.mpr c1
      by_cases c2 : a1 = 772
      · have c2b0 : (a1 == 772) = true := beq_iff_eq.mpr c2
        have e_ : p = some ⟨g, 3, none⟩ := by rw [← h]; unfold atP; simp only [c0b0, c1b0, c2b0, Bool.false_eq_true, if_true, if_false]
        subst e_
        clear h
        go_enter Try.func48, Try.ntmps48
        go_wp2
        go_ret
        exact ⟨by first | rfl | (simp; done) | (simp [*]; done), by repeat (first | exact Drawn0.refl _ | apply Drawn0.step)⟩
      · have c2b0 : (a1 == 772) = false := beq_eq_false_iff_ne.mpr c2
        by_cases c3 : a1 = 773
        · have c3b0 : (a1 == 773) = true := beq_iff_eq.mpr c3
          have e_ : p = some ⟨g, 4, none⟩ := by rw [← h]; unfold atP; simp only [c0b0, c1b0, c2b0, c3b0, Bool.false_eq_true, if_true, if_false]
          subst e_
          clear h
          go_enter Try.func48, Try.ntmps48
          go_wp2
          go_ret
          exact ⟨by first | rfl | (simp; done) | (simp [*]; done), by repeat (first | exact Drawn0.refl _ | apply Drawn0.step)⟩
        · have c3b0 : (a1 == 773) = false := beq_eq_false_iff_ne.mpr c3
          by_cases c4 : a1 = 832
          · have c4b0 : (a1 == 832) = true := beq_iff_eq.mpr c4
            have e_ : p = some ⟨g, 5, none⟩ := by rw [← h]; unfold atP; simp only [c0b0, c1b0, c2b0, c3b0, c4b0, Bool.false_eq_true, if_true, if_false]
            subst e_
            clear h
            go_enter Try.func48, Try.ntmps48
            go_wp2
            go_ret
            exact ⟨by first | rfl | (simp; done) | (simp [*]; done), by repeat (first | exact Drawn0.refl _ | apply Drawn0.step)⟩
          · have c4b0 : (a1 == 832) = false := beq_eq_false_iff_ne.mpr c4
            by_cases c5 : a1 = 833
            · have c5b0 : (a1 == 833) = true := beq_iff_eq.mpr c5
              have e_ : p = some ⟨g, 6, none⟩ := by rw [← h]; unfold atP; simp only [c0b0, c1b0, c2b0, c3b0, c4b0, c5b0, Bool.false_eq_true, if_true, if_false]
              subst e_
              clear h
              go_enter Try.func48, Try.ntmps48
              go_wp2
              go_ret
              exact ⟨by first | rfl | (simp; done) | (simp [*]; done), by repeat (first | exact Drawn0.refl _ | apply Drawn0.step)⟩
            · have c5b0 : (a1 == 833) = false := beq_eq_false_iff_ne.mpr c5
              by_cases c6 : a1 = 834
              · have c6b0 : (a1 == 834) = true := beq_iff_eq.mpr c6
                have e_ : p = some ⟨g, 7, none⟩ := by rw [← h]; unfold atP; simp only [c0b0, c1b0, c2b0, c3b0, c4b0, c5b0, c6b0, Bool.false_eq_true, if_true, if_false]
                subst e_
                clear h
                go_enter Try.func48, Try.ntmps48
                go_wp2
                go_ret
                exact ⟨by first | rfl | (simp; done) | (simp [*]; done), by repeat (first | exact Drawn0.refl _ | apply Drawn0.step)⟩
              · have c6b0 : (a1 == 834) = false := beq_eq_false_iff_ne.mpr c6
                by_cases c7 : a1 = 835
                · have c7b0 : (a1 == 835) = true := beq_iff_eq.mpr c7
                  have e_ : p = some ⟨g, 8, none⟩ := by rw [← h]; unfold atP; simp only [c0b0, c1b0, c2b0, c3b0, c4b0, c5b0, c6b0, c7b0, Bool.false_eq_true, if_true, if_false]
                  subst e_
                  clear h
                  go_enter Try.func48, Try.ntmps48
                  go_wp2
                  go_ret
                  exact ⟨by first | rfl | (simp; done) | (simp [*]; done), by repeat (first | exact Drawn0.refl _ | apply Drawn0.step)⟩
                · have c7b0 : (a1 == 835) = false := beq_eq_false_iff_ne.mpr c7
                  by_cases c8 : a1 = 836
                  · have c8b0 : (a1 == 836) = true := beq_iff_eq.mpr c8
                    have e_ : p = some ⟨g, 9, none⟩ := by rw [← h]; unfold atP; simp only [c0b0, c1b0, c2b0, c3b0, c4b0, c5b0, c6b0, c7b0, c8b0, Bool.false_eq_true, if_true, if_false]
                    subst e_
                    clear h
                    go_enter Try.func48, Try.ntmps48
                    go_wp2
                    go_ret
                    exact ⟨by first | rfl | (simp; done) | (simp [*]; done), by repeat (first | exact Drawn0.refl _ | apply Drawn0.step)⟩
                  · have c8b0 : (a1 == 836) = false := beq_eq_false_iff_ne.mpr c8
                    by_cases c9 : a1 = 3860
                    · have c9b0 : (a1 == 3860) = true := beq_iff_eq.mpr c9
                      have e_ : p = some ⟨g, 10, none⟩ := by rw [← h]; unfold atP; simp only [c0b0, c1b0, c2b0, c3b0, c4b0, c5b0, c6b0, c7b0, c8b0, c9b0, Bool.false_eq_true, if_true, if_false]
                      subst e_
                      clear h
                      go_enter Try.func48, Try.ntmps48
                      go_wp2
                      go_ret
                      exact ⟨by first | rfl | (simp; done) | (simp [*]; done), by repeat (first | exact Drawn0.refl _ | apply Drawn0.step)⟩
                    · have c9b0 : (a1 == 3860) = false := beq_eq_false_iff_ne.mpr c9
                      have e_ : p = none := by rw [← h]; unfold atP; simp only [c0b0, c1b0, c2b0, c3b0, c4b0, c5b0, c6b0, c7b0, c8b0, c9b0, Bool.false_eq_true, if_true, if_false]
                      subst e_
                      clear h
                      go_enter Try.func48, Try.ntmps48
                      go_wp2
                      go_ret
                      exact ⟨by first | rfl | (simp; done) | (simp [*]; done), by repeat (first | exact Drawn0.refl _ | apply Drawn0.step)⟩

/-! ### csr_File_Set: function 22 -/
def csr_File_Set.f (s0_0 : Bool) (s0_1 : Int) (s0_2 : Int) (s0_3 : Int) (s0_4 : Int) (s0_5 : Int) (s0_6 : Int) (s0_7 : Int) (s0_8 : Int) (s0_9 : Int) (s0_10 : Int) (a1 : Int) (a2 : Int) : Option (Bool × Bool × Int × Int × Int × Int × Int × Int × Int × Int × Int × Int) := if s0_0 = true then (some (false, s0_0, s0_1, s0_2, s0_3, s0_4, s0_5, s0_6, s0_7, s0_8, s0_9, s0_10)) else (if a1 = 384 then (some (true, s0_0, Go.bits .and .u32 a2 2151677951, s0_2, s0_3, s0_4, s0_5, s0_6, s0_7, s0_8, s0_9, s0_10)) else (if a1 = 768 then ((word_Bits.f a2 11 2).bind fun t103 => (if t103 = 3 then (some (true, s0_0, s0_1, Go.bits .or .u32 (Go.bits .and .u32 a2 136) 6144, s0_3, s0_4, s0_5, s0_6, s0_7, s0_8, s0_9, s0_10)) else (some (true, s0_0, s0_1, Go.bits .and .u32 a2 136, s0_3, s0_4, s0_5, s0_6, s0_7, s0_8, s0_9, s0_10)))) else (if a1 = 772 then (some (true, s0_0, s0_1, s0_2, Go.bits .and .u32 a2 8, s0_4, s0_5, s0_6, s0_7, s0_8, s0_9, s0_10)) else (if a1 = 773 then (some (true, s0_0, s0_1, s0_2, s0_3, Go.bits .and .u32 a2 4294967292, s0_5, s0_6, s0_7, s0_8, s0_9, s0_10)) else (if a1 = 832 then (some (true, s0_0, s0_1, s0_2, s0_3, s0_4, a2, s0_6, s0_7, s0_8, s0_9, s0_10)) else (if a1 = 833 then (some (true, s0_0, s0_1, s0_2, s0_3, s0_4, s0_5, Go.bits .and .u32 a2 4294967292, s0_7, s0_8, s0_9, s0_10)) else (if a1 = 834 then (some (true, s0_0, s0_1, s0_2, s0_3, s0_4, s0_5, s0_6, a2, s0_8, s0_9, s0_10)) else (if a1 = 835 then (some (true, s0_0, s0_1, s0_2, s0_3, s0_4, s0_5, s0_6, s0_7, a2, s0_9, s0_10)) else (if a1 = 836 then (some (true, s0_0, s0_1, s0_2, s0_3, s0_4, s0_5, s0_6, s0_7, s0_8, s0_9, s0_10)) else (if a1 = 3860 then (some (false, s0_0, s0_1, s0_2, s0_3, s0_4, s0_5, s0_6, s0_7, s0_8, s0_9, s0_10)) else (some (false, s0_0, s0_1, s0_2, s0_3, s0_4, s0_5, s0_6, s0_7, s0_8, s0_9, s0_10))))))))))))
set_option maxHeartbeats 8000000 in
set_option maxRecDepth 100000 in
theorem csr_File_Set.calls (g : Nat) (s0_0 : Bool) (s0_1 : Int) (s0_2 : Int) (s0_3 : Int) (s0_4 : Int) (s0_5 : Int) (s0_6 : Int) (s0_7 : Int) (s0_8 : Int) (s0_9 : Int) (s0_10 : Int) (a1 : Int) (a2 : Int) (r1 : Bool) (r2 : Bool) (r3 : Int) (r4 : Int) (r5 : Int) (r6 : Int) (r7 : Int) (r8 : Int) (r9 : Int) (r10 : Int) (r11 : Int) (r12 : Int) (w0 w : World) (hI : IsS38 w0 w g s0_0 s0_1 s0_2 s0_3 s0_4 s0_5 s0_6 s0_7 s0_8 s0_9 s0_10) (hB : Below w0.heap.size w0 w) (h : csr_File_Set.f s0_0 s0_1 s0_2 s0_3 s0_4 s0_5 s0_6 s0_7 s0_8 s0_9 s0_10 a1 a2 = some (r1, r2, r3, r4, r5, r6, r7, r8, r9, r10, r11, r12)) :
    Calls Try.prog 22 #[.pointer (some ⟨g, 0, none⟩), .int .i64 a1, .int .u32 a2] w fun e w' => e = .returned (.bool r1) ∧ IsS38 w0 w' g r2 r3 r4 r5 r6 r7 r8 r9 r10 r11 r12 ∧ Below w0.heap.size w0 w' ∧ KeepBut w w' g none := by
  have HI0 := Aside0.mk hI
  have HK := Aside0.mk (KeepBut.refl w g none)
  have HL := Aside0.mk hB.size
  clear hI
  have HW0 := Aside0.mk hB.size
  have HB := Aside0.mk hB
  clear hB
  have H : (if s0_0 = true then (some (false, s0_0, s0_1, s0_2, s0_3, s0_4, s0_5, s0_6, s0_7, s0_8, s0_9, s0_10)) else (if a1 = 384 then (some (true, s0_0, Go.bits .and .u32 a2 2151677951, s0_2, s0_3, s0_4, s0_5, s0_6, s0_7, s0_8, s0_9, s0_10)) else (if a1 = 768 then ((word_Bits.f a2 11 2).bind fun t103 => (if t103 = 3 then (some (true, s0_0, s0_1, Go.bits .or .u32 (Go.bits .and .u32 a2 136) 6144, s0_3, s0_4, s0_5, s0_6, s0_7, s0_8, s0_9, s0_10)) else (some (true, s0_0, s0_1, Go.bits .and .u32 a2 136, s0_3, s0_4, s0_5, s0_6, s0_7, s0_8, s0_9, s0_10)))) else (if a1 = 772 then (some (true, s0_0, s0_1, s0_2, Go.bits .and .u32 a2 8, s0_4, s0_5, s0_6, s0_7, s0_8, s0_9, s0_10)) else (if a1 = 773 then (some (true, s0_0, s0_1, s0_2, s0_3, Go.bits .and .u32 a2 4294967292, s0_5, s0_6, s0_7, s0_8, s0_9, s0_10)) else (if a1 = 832 then (some (true, s0_0, s0_1, s0_2, s0_3, s0_4, a2, s0_6, s0_7, s0_8, s0_9, s0_10)) else (if a1 = 833 then (some (true, s0_0, s0_1, s0_2, s0_3, s0_4, s0_5, Go.bits .and .u32 a2 4294967292, s0_7, s0_8, s0_9, s0_10)) else (if a1 = 834 then (some (true, s0_0, s0_1, s0_2, s0_3, s0_4, s0_5, s0_6, a2, s0_8, s0_9, s0_10)) else (if a1 = 835 then (some (true, s0_0, s0_1, s0_2, s0_3, s0_4, s0_5, s0_6, s0_7, a2, s0_9, s0_10)) else (if a1 = 836 then (some (true, s0_0, s0_1, s0_2, s0_3, s0_4, s0_5, s0_6, s0_7, s0_8, s0_9, s0_10)) else (if a1 = 3860 then (some (false, s0_0, s0_1, s0_2, s0_3, s0_4, s0_5, s0_6, s0_7, s0_8, s0_9, s0_10)) else (some (false, s0_0, s0_1, s0_2, s0_3, s0_4, s0_5, s0_6, s0_7, s0_8, s0_9, s0_10))))))))))))) = some (r1, r2, r3, r4, r5, r6, r7, r8, r9, r10, r11, r12) := h
  clear h
  by_cases c4 : s0_0 = true
  · subst c4
    have H1 : (some (false, true, s0_1, s0_2, s0_3, s0_4, s0_5, s0_6, s0_7, s0_8, s0_9, s0_10)) = some (r1, r2, r3, r4, r5, r6, r7, r8, r9, r10, r11, r12) := by rw [if_pos rfl] at H; exact H
    clear H
    have H := H1
    clear H1
    simp only [Option.some.injEq, Prod.mk.injEq] at H
    obtain ⟨rfl, rfl, rfl, rfl, rfl, rfl, rfl, rfl, rfl, rfl, rfl, rfl⟩ := H
    obtain ⟨HGz5, hgz5⟩ := HI0.out
    have hcz5_0 := cellS38_0 HGz5
    have hcz5_1 := cellS38_1 HGz5
    have hcz5_2 := cellS38_2 HGz5
    have hcz5_3 := cellS38_3 HGz5
    have hcz5_4 := cellS38_4 HGz5
    have hcz5_5 := cellS38_5 HGz5
    have hcz5_6 := cellS38_6 HGz5
    have hcz5_7 := cellS38_7 HGz5
    have hcz5_8 := cellS38_8 HGz5
    have hcz5_9 := cellS38_9 HGz5
    have hcz5_10 := cellS38_10 HGz5
    have hfz5_0 := blk_frozen HGz5 0
    have hfz5_1 := blk_frozen HGz5 1
    have hfz5_2 := blk_frozen HGz5 2
    have hfz5_3 := blk_frozen HGz5 3
    have hfz5_4 := blk_frozen HGz5 4
    have hfz5_5 := blk_frozen HGz5 5
    have hfz5_6 := blk_frozen HGz5 6
    have hfz5_7 := blk_frozen HGz5 7
    have hfz5_8 := blk_frozen HGz5 8
    have hfz5_9 := blk_frozen HGz5 9
    have hfz5_10 := blk_frozen HGz5 10
    clear HGz5 hgz5
    obtain ⟨p_, hp_⟩ : ∃ p_, atP g a1 = p_ := ⟨_, rfl⟩
    rcases p_ with _ | ad_
    all_goals (go_enter Try.func22, Try.ntmps22; go_wp2_with (first | ((with_reducible refine gate_callee (f := 48) rfl ?_); refine goesL_ (some 11) rfl rfl Try.func48 (by kernel_rfl) rfl #[.pointer (some ⟨g, 0, none⟩), .int .i64 a1] rfl (by (try simp only [List.map_toArray, List.map_cons, List.map_nil]); first | done | rfl) ?_; (with_reducible refine (csr_File_at.calls g a1 _ _ hp_).mono ?_); rintro e w' ⟨rfl, ⟨nd, rfl⟩⟩; refine ⟨_, rfl, ?_⟩)); go_ret; exact ⟨by first | rfl | (simp [errW_none, errW_some] <;> rfl) | (simp [*, errW_none, errW_some] <;> rfl), by repeat (first | (with_reducible first | exact HI0.out | apply IsS38.alloc | apply IsS38.drewN | apply IsS38.drew | apply IsS38.set_0 | apply IsS38.set_1 | apply IsS38.set_2 | apply IsS38.set_3 | apply IsS38.set_4 | apply IsS38.set_5 | apply IsS38.set_6 | apply IsS38.set_7 | apply IsS38.set_8 | apply IsS38.set_9 | apply IsS38.set_10) | exact HI0.out), by repeat (first | (with_reducible first | exact HB.out | apply below_alloc | apply pw_below_drewN | apply below_drew1 | refine below_set ?_ (IsS38.ge HI0.out)) | exact HB.out), by repeat (first | (with_reducible first | exact HK.out | apply KeepBut.set_ | apply keep_drewN | apply keep_drew | apply keep_alloc) | exact HK.out)⟩)
  · replace c4 := Bool.eq_false_iff.mpr c4
    subst c4
    have H1 : (if a1 = 384 then (some (true, false, Go.bits .and .u32 a2 2151677951, s0_2, s0_3, s0_4, s0_5, s0_6, s0_7, s0_8, s0_9, s0_10)) else (if a1 = 768 then ((word_Bits.f a2 11 2).bind fun t103 => (if t103 = 3 then (some (true, false, s0_1, Go.bits .or .u32 (Go.bits .and .u32 a2 136) 6144, s0_3, s0_4, s0_5, s0_6, s0_7, s0_8, s0_9, s0_10)) else (some (true, false, s0_1, Go.bits .and .u32 a2 136, s0_3, s0_4, s0_5, s0_6, s0_7, s0_8, s0_9, s0_10)))) else (if a1 = 772 then (some (true, false, s0_1, s0_2, Go.bits .and .u32 a2 8, s0_4, s0_5, s0_6, s0_7, s0_8, s0_9, s0_10)) else (if a1 = 773 then (some (true, false, s0_1, s0_2, s0_3, Go.bits .and .u32 a2 4294967292, s0_5, s0_6, s0_7, s0_8, s0_9, s0_10)) else (if a1 = 832 then (some (true, false, s0_1, s0_2, s0_3, s0_4, a2, s0_6, s0_7, s0_8, s0_9, s0_10)) else (if a1 = 833 then (some (true, false, s0_1, s0_2, s0_3, s0_4, s0_5, Go.bits .and .u32 a2 4294967292, s0_7, s0_8, s0_9, s0_10)) else (if a1 = 834 then (some (true, false, s0_1, s0_2, s0_3, s0_4, s0_5, s0_6, a2, s0_8, s0_9, s0_10)) else (if a1 = 835 then (some (true, false, s0_1, s0_2, s0_3, s0_4, s0_5, s0_6, s0_7, a2, s0_9, s0_10)) else (if a1 = 836 then (some (true, false, s0_1, s0_2, s0_3, s0_4, s0_5, s0_6, s0_7, s0_8, s0_9, s0_10)) else (if a1 = 3860 then (some (false, false, s0_1, s0_2, s0_3, s0_4, s0_5, s0_6, s0_7, s0_8, s0_9, s0_10)) else (some (false, false, s0_1, s0_2, s0_3, s0_4, s0_5, s0_6, s0_7, s0_8, s0_9, s0_10)))))))))))) = some (r1, r2, r3, r4, r5, r6, r7, r8, r9, r10, r11, r12) := by rw [if_neg (show ¬ (false = true) by decide)] at H; exact H
    clear H
    have H := H1
    clear H1
    by_cases c6 : a1 = 384
    · rw [if_pos c6] at H
      have c6b0 : (a1 == 384) = true := beq_iff_eq.mpr c6
      have c6b1 : (a1 != 384) = false := bne_eq_false_iff_eq.mpr c6
      clear c6
      simp only [Option.some.injEq, Prod.mk.injEq] at H
      obtain ⟨rfl, rfl, rfl, rfl, rfl, rfl, rfl, rfl, rfl, rfl, rfl, rfl⟩ := H
      obtain ⟨HGz7, hgz7⟩ := HI0.out
      have hcz7_0 := cellS38_0 HGz7
      have hcz7_1 := cellS38_1 HGz7
      have hcz7_2 := cellS38_2 HGz7
      have hcz7_3 := cellS38_3 HGz7
      have hcz7_4 := cellS38_4 HGz7
      have hcz7_5 := cellS38_5 HGz7
      have hcz7_6 := cellS38_6 HGz7
      have hcz7_7 := cellS38_7 HGz7
      have hcz7_8 := cellS38_8 HGz7
      have hcz7_9 := cellS38_9 HGz7
      have hcz7_10 := cellS38_10 HGz7
      have hfz7_0 := blk_frozen HGz7 0
      have hfz7_1 := blk_frozen HGz7 1
      have hfz7_2 := blk_frozen HGz7 2
      have hfz7_3 := blk_frozen HGz7 3
      have hfz7_4 := blk_frozen HGz7 4
      have hfz7_5 := blk_frozen HGz7 5
      have hfz7_6 := blk_frozen HGz7 6
      have hfz7_7 := blk_frozen HGz7 7
      have hfz7_8 := blk_frozen HGz7 8
      have hfz7_9 := blk_frozen HGz7 9
      have hfz7_10 := blk_frozen HGz7 10
      clear HGz7 hgz7
      have hp_ : atP g a1 = some ⟨g, 1, none⟩ := by unfold atP; simp only [c6b0, Bool.false_eq_true, if_true, if_false]
      go_enter Try.func22, Try.ntmps22
      go_wp2_with (first | ((with_reducible refine gate_callee (f := 48) rfl ?_); refine goesL_ (some 11) rfl rfl Try.func48 (by kernel_rfl) rfl #[.pointer (some ⟨g, 0, none⟩), .int .i64 a1] rfl (by (try simp only [List.map_toArray, List.map_cons, List.map_nil]); first | done | rfl) ?_; (with_reducible refine (csr_File_at.calls g a1 _ _ hp_).mono ?_); rintro e w' ⟨rfl, ⟨nd, rfl⟩⟩; refine ⟨_, rfl, ?_⟩))
      go_ret
      exact ⟨by first | rfl | (simp [errW_none, errW_some] <;> rfl) | (simp [*, errW_none, errW_some] <;> rfl), by repeat (first | (with_reducible first | exact HI0.out | apply IsS38.alloc | apply IsS38.drewN | apply IsS38.drew | apply IsS38.set_0 | apply IsS38.set_1 | apply IsS38.set_2 | apply IsS38.set_3 | apply IsS38.set_4 | apply IsS38.set_5 | apply IsS38.set_6 | apply IsS38.set_7 | apply IsS38.set_8 | apply IsS38.set_9 | apply IsS38.set_10) | exact HI0.out), by repeat (first | (with_reducible first | exact HB.out | apply below_alloc | apply pw_below_drewN | apply below_drew1 | refine below_set ?_ (IsS38.ge HI0.out)) | exact HB.out), by repeat (first | (with_reducible first | exact HK.out | apply KeepBut.set_ | apply keep_drewN | apply keep_drew | apply keep_alloc) | exact HK.out)⟩
    · rw [if_neg c6] at H
      have c6b0 : (a1 == 384) = false := beq_eq_false_iff_ne.mpr c6
      have c6b1 : (a1 != 384) = true := bne_iff_ne.mpr c6
      by_cases c8 : a1 = 768
      · rw [if_pos c8] at H
        have c8b0 : (a1 == 768) = true := beq_iff_eq.mpr c8
        have c8b1 : (a1 != 768) = false := bne_eq_false_iff_eq.mpr c8
        clear c8
        replace H := Option.bind_eq_some_iff.mp H
        obtain ⟨t103, A90, H⟩ := H
        replace H : (if t103 = 3 then (some (true, false, s0_1, Go.bits .or .u32 (Go.bits .and .u32 a2 136) 6144, s0_3, s0_4, s0_5, s0_6, s0_7, s0_8, s0_9, s0_10)) else (some (true, false, s0_1, Go.bits .and .u32 a2 136, s0_3, s0_4, s0_5, s0_6, s0_7, s0_8, s0_9, s0_10))) = some (r1, r2, r3, r4, r5, r6, r7, r8, r9, r10, r11, r12) := H
        have A9 := Aside0.mk A90
        clear A90
        by_cases c10 : t103 = 3
        · rw [if_pos c10] at H
          have c10b0 : (t103 == 3) = true := beq_iff_eq.mpr c10
          have c10b1 : (t103 != 3) = false := bne_eq_false_iff_eq.mpr c10
          clear c10
          simp only [Option.some.injEq, Prod.mk.injEq] at H
          obtain ⟨rfl, rfl, rfl, rfl, rfl, rfl, rfl, rfl, rfl, rfl, rfl, rfl⟩ := H
          obtain ⟨HGz11, hgz11⟩ := HI0.out
          have hcz11_0 := cellS38_0 HGz11
          have hcz11_1 := cellS38_1 HGz11
          have hcz11_2 := cellS38_2 HGz11
          have hcz11_3 := cellS38_3 HGz11
          have hcz11_4 := cellS38_4 HGz11
          have hcz11_5 := cellS38_5 HGz11
          have hcz11_6 := cellS38_6 HGz11
          have hcz11_7 := cellS38_7 HGz11
          have hcz11_8 := cellS38_8 HGz11
          have hcz11_9 := cellS38_9 HGz11
          have hcz11_10 := cellS38_10 HGz11
          have hfz11_0 := blk_frozen HGz11 0
          have hfz11_1 := blk_frozen HGz11 1
          have hfz11_2 := blk_frozen HGz11 2
          have hfz11_3 := blk_frozen HGz11 3
          have hfz11_4 := blk_frozen HGz11 4
          have hfz11_5 := blk_frozen HGz11 5
          have hfz11_6 := blk_frozen HGz11 6
          have hfz11_7 := blk_frozen HGz11 7
          have hfz11_8 := blk_frozen HGz11 8
          have hfz11_9 := blk_frozen HGz11 9
          have hfz11_10 := blk_frozen HGz11 10
          clear HGz11 hgz11
          have hp_ : atP g a1 = some ⟨g, 2, none⟩ := by unfold atP; simp only [c6b0, c8b0, Bool.false_eq_true, if_true, if_false]
          go_enter Try.func22, Try.ntmps22
          go_wp2_with (first | ((with_reducible refine gate_callee (f := 48) rfl ?_); refine goesL_ (some 11) rfl rfl Try.func48 (by kernel_rfl) rfl #[.pointer (some ⟨g, 0, none⟩), .int .i64 a1] rfl (by (try simp only [List.map_toArray, List.map_cons, List.map_nil]); first | done | rfl) ?_; (with_reducible refine (csr_File_at.calls g a1 _ _ hp_).mono ?_); rintro e w' ⟨rfl, ⟨nd, rfl⟩⟩; refine ⟨_, rfl, ?_⟩) | ((with_reducible refine gate_callee (f := 42) rfl ?_); refine goesL_ (some 30) rfl rfl Try.func42 (by kernel_rfl) rfl #[.int .u32 a2, .int .i64 11, .int .i64 2] rfl (by (try simp only [List.map_toArray, List.map_cons, List.map_nil]); first | done | rfl | (simp only [List.length_drop, List.length_take]; rfl)) ?_; (with_reducible refine (word_Bits.calls a2 11 2 t103 _ A9.out).mono ?_); rintro e w12 ⟨rfl, hb⟩; refine ⟨_, rfl, ?_⟩; have n0_ := Aside0.mk (IsS38.below (by repeat (first | (with_reducible first | exact HI0.out | apply IsS38.alloc | apply IsS38.drewN | apply IsS38.drew | apply IsS38.set_0 | apply IsS38.set_1 | apply IsS38.set_2 | apply IsS38.set_3 | apply IsS38.set_4 | apply IsS38.set_5 | apply IsS38.set_6 | apply IsS38.set_7 | apply IsS38.set_8 | apply IsS38.set_9 | apply IsS38.set_10) | exact HI0.out)) hb); have n1_ := Aside0.mk (KeepBut.trans (by repeat (first | (with_reducible first | exact HK.out | apply KeepBut.set_ | apply keep_drewN | apply keep_drew | apply keep_alloc) | exact HK.out)) (KeepBut.of_below hb g none) (.inl rfl)); have n2_ := Aside0.mk (below_step (by repeat (first | (with_reducible first | exact HB.out | apply below_alloc | apply pw_below_drewN | apply below_drew1 | refine below_set ?_ (IsS38.ge HI0.out)) | exact HB.out)) hb); clear HI0; clear HK; clear HB; have HI0 := n0_; have HK := n1_; have HB := n2_; clear n0_ n1_ n2_; (try clear hb); (try clear hb2); (try clear hk); (try clear hi); obtain ⟨HGz13, hgz13⟩ := HI0.out; have hcz13_0 := cellS38_0 HGz13; have hcz13_1 := cellS38_1 HGz13; have hcz13_2 := cellS38_2 HGz13; have hcz13_3 := cellS38_3 HGz13; have hcz13_4 := cellS38_4 HGz13; have hcz13_5 := cellS38_5 HGz13; have hcz13_6 := cellS38_6 HGz13; have hcz13_7 := cellS38_7 HGz13; have hcz13_8 := cellS38_8 HGz13; have hcz13_9 := cellS38_9 HGz13; have hcz13_10 := cellS38_10 HGz13; have hfz13_0 := blk_frozen HGz13 0; have hfz13_1 := blk_frozen HGz13 1; have hfz13_2 := blk_frozen HGz13 2; have hfz13_3 := blk_frozen HGz13 3; have hfz13_4 := blk_frozen HGz13 4; have hfz13_5 := blk_frozen HGz13 5; have hfz13_6 := blk_frozen HGz13 6; have hfz13_7 := blk_frozen HGz13 7; have hfz13_8 := blk_frozen HGz13 8; have hfz13_9 := blk_frozen HGz13 9; have hfz13_10 := blk_frozen HGz13 10; clear HGz13 hgz13))
          go_ret
          exact ⟨by first | rfl | (simp [errW_none, errW_some] <;> rfl) | (simp [*, errW_none, errW_some] <;> rfl), by repeat (first | (with_reducible first | exact HI0.out | apply IsS38.alloc | apply IsS38.drewN | apply IsS38.drew | apply IsS38.set_0 | apply IsS38.set_1 | apply IsS38.set_2 | apply IsS38.set_3 | apply IsS38.set_4 | apply IsS38.set_5 | apply IsS38.set_6 | apply IsS38.set_7 | apply IsS38.set_8 | apply IsS38.set_9 | apply IsS38.set_10) | exact HI0.out), by repeat (first | (with_reducible first | exact HB.out | apply below_alloc | apply pw_below_drewN | apply below_drew1 | refine below_set ?_ (IsS38.ge HI0.out)) | exact HB.out), by repeat (first | (with_reducible first | exact HK.out | apply KeepBut.set_ | apply keep_drewN | apply keep_drew | apply keep_alloc) | exact HK.out)⟩
        · rw [if_neg c10] at H
          have c10b0 : (t103 == 3) = false := beq_eq_false_iff_ne.mpr c10
          have c10b1 : (t103 != 3) = true := bne_iff_ne.mpr c10
          simp only [Option.some.injEq, Prod.mk.injEq] at H
          obtain ⟨rfl, rfl, rfl, rfl, rfl, rfl, rfl, rfl, rfl, rfl, rfl, rfl⟩ := H
          obtain ⟨HGz14, hgz14⟩ := HI0.out
          have hcz14_0 := cellS38_0 HGz14
          have hcz14_1 := cellS38_1 HGz14
          have hcz14_2 := cellS38_2 HGz14
          have hcz14_3 := cellS38_3 HGz14
          have hcz14_4 := cellS38_4 HGz14
          have hcz14_5 := cellS38_5 HGz14
          have hcz14_6 := cellS38_6 HGz14
          have hcz14_7 := cellS38_7 HGz14
          have hcz14_8 := cellS38_8 HGz14
          have hcz14_9 := cellS38_9 HGz14
          have hcz14_10 := cellS38_10 HGz14
          have hfz14_0 := blk_frozen HGz14 0
          have hfz14_1 := blk_frozen HGz14 1
          have hfz14_2 := blk_frozen HGz14 2
          have hfz14_3 := blk_frozen HGz14 3
          have hfz14_4 := blk_frozen HGz14 4
          have hfz14_5 := blk_frozen HGz14 5
          have hfz14_6 := blk_frozen HGz14 6
          have hfz14_7 := blk_frozen HGz14 7
          have hfz14_8 := blk_frozen HGz14 8
          have hfz14_9 := blk_frozen HGz14 9
          have hfz14_10 := blk_frozen HGz14 10
          clear HGz14 hgz14
          have hp_ : atP g a1 = some ⟨g, 2, none⟩ := by unfold atP; simp only [c6b0, c8b0, Bool.false_eq_true, if_true, if_false]
          go_enter Try.func22, Try.ntmps22
          go_wp2_with (first | ((with_reducible refine gate_callee (f := 48) rfl ?_); refine goesL_ (some 11) rfl rfl Try.func48 (by kernel_rfl) rfl #[.pointer (some ⟨g, 0, none⟩), .int .i64 a1] rfl (by (try simp only [List.map_toArray, List.map_cons, List.map_nil]); first | done | rfl) ?_; (with_reducible refine (csr_File_at.calls g a1 _ _ hp_).mono ?_); rintro e w' ⟨rfl, ⟨nd, rfl⟩⟩; refine ⟨_, rfl, ?_⟩) | ((with_reducible refine gate_callee (f := 42) rfl ?_); refine goesL_ (some 30) rfl rfl Try.func42 (by kernel_rfl) rfl #[.int .u32 a2, .int .i64 11, .int .i64 2] rfl (by (try simp only [List.map_toArray, List.map_cons, List.map_nil]); first | done | rfl | (simp only [List.length_drop, List.length_take]; rfl)) ?_; (with_reducible refine (word_Bits.calls a2 11 2 t103 _ A9.out).mono ?_); rintro e w15 ⟨rfl, hb⟩; refine ⟨_, rfl, ?_⟩; have n0_ := Aside0.mk (IsS38.below (by repeat (first | (with_reducible first | exact HI0.out | apply IsS38.alloc | apply IsS38.drewN | apply IsS38.drew | apply IsS38.set_0 | apply IsS38.set_1 | apply IsS38.set_2 | apply IsS38.set_3 | apply IsS38.set_4 | apply IsS38.set_5 | apply IsS38.set_6 | apply IsS38.set_7 | apply IsS38.set_8 | apply IsS38.set_9 | apply IsS38.set_10) | exact HI0.out)) hb); have n1_ := Aside0.mk (KeepBut.trans (by repeat (first | (with_reducible first | exact HK.out | apply KeepBut.set_ | apply keep_drewN | apply keep_drew | apply keep_alloc) | exact HK.out)) (KeepBut.of_below hb g none) (.inl rfl)); have n2_ := Aside0.mk (below_step (by repeat (first | (with_reducible first | exact HB.out | apply below_alloc | apply pw_below_drewN | apply below_drew1 | refine below_set ?_ (IsS38.ge HI0.out)) | exact HB.out)) hb); clear HI0; clear HK; clear HB; have HI0 := n0_; have HK := n1_; have HB := n2_; clear n0_ n1_ n2_; (try clear hb); (try clear hb2); (try clear hk); (try clear hi); obtain ⟨HGz16, hgz16⟩ := HI0.out; have hcz16_0 := cellS38_0 HGz16; have hcz16_1 := cellS38_1 HGz16; have hcz16_2 := cellS38_2 HGz16; have hcz16_3 := cellS38_3 HGz16; have hcz16_4 := cellS38_4 HGz16; have hcz16_5 := cellS38_5 HGz16; have hcz16_6 := cellS38_6 HGz16; have hcz16_7 := cellS38_7 HGz16; have hcz16_8 := cellS38_8 HGz16; have hcz16_9 := cellS38_9 HGz16; have hcz16_10 := cellS38_10 HGz16; have hfz16_0 := blk_frozen HGz16 0; have hfz16_1 := blk_frozen HGz16 1; have hfz16_2 := blk_frozen HGz16 2; have hfz16_3 := blk_frozen HGz16 3; have hfz16_4 := blk_frozen HGz16 4; have hfz16_5 := blk_frozen HGz16 5; have hfz16_6 := blk_frozen HGz16 6; have hfz16_7 := blk_frozen HGz16 7; have hfz16_8 := blk_frozen HGz16 8; have hfz16_9 := blk_frozen HGz16 9; have hfz16_10 := blk_frozen HGz16 10; clear HGz16 hgz16))
          go_ret
          exact ⟨by first | rfl | (simp [errW_none, errW_some] <;> rfl) | (simp [*, errW_none, errW_some] <;> rfl), by repeat (first | (with_reducible first | exact HI0.out | apply IsS38.alloc | apply IsS38.drewN | apply IsS38.drew | apply IsS38.set_0 | apply IsS38.set_1 | apply IsS38.set_2 | apply IsS38.set_3 | apply IsS38.set_4 | apply IsS38.set_5 | apply IsS38.set_6 | apply IsS38.set_7 | apply IsS38.set_8 | apply IsS38.set_9 | apply IsS38.set_10) | exact HI0.out), by repeat (first | (with_reducible first | exact HB.out | apply below_alloc | apply pw_below_drewN | apply below_drew1 | refine below_set ?_ (IsS38.ge HI0.out)) | exact HB.out), by repeat (first | (with_reducible first | exact HK.out | apply KeepBut.set_ | apply keep_drewN | apply keep_drew | apply keep_alloc) | exact HK.out)⟩
      · rw [if_neg c8] at H
        have c8b0 : (a1 == 768) = false := beq_eq_false_iff_ne.mpr c8
        have c8b1 : (a1 != 768) = true := bne_iff_ne.mpr c8
        by_cases c17 : a1 = 772
        · rw [if_pos c17] at H
          have c17b0 : (a1 == 772) = true := beq_iff_eq.mpr c17
          have c17b1 : (a1 != 772) = false := bne_eq_false_iff_eq.mpr c17
          clear c17
          simp only [Option.some.injEq, Prod.mk.injEq] at H
          obtain ⟨rfl, rfl, rfl, rfl, rfl, rfl, rfl, rfl, rfl, rfl, rfl, rfl⟩ := H
          obtain ⟨HGz18, hgz18⟩ := HI0.out
          have hcz18_0 := cellS38_0 HGz18
          have hcz18_1 := cellS38_1 HGz18
          have hcz18_2 := cellS38_2 HGz18
          have hcz18_3 := cellS38_3 HGz18
          have hcz18_4 := cellS38_4 HGz18
          have hcz18_5 := cellS38_5 HGz18
          have hcz18_6 := cellS38_6 HGz18
          have hcz18_7 := cellS38_7 HGz18
          have hcz18_8 := cellS38_8 HGz18
          have hcz18_9 := cellS38_9 HGz18
          have hcz18_10 := cellS38_10 HGz18
          have hfz18_0 := blk_frozen HGz18 0
          have hfz18_1 := blk_frozen HGz18 1
          have hfz18_2 := blk_frozen HGz18 2
          have hfz18_3 := blk_frozen HGz18 3
          have hfz18_4 := blk_frozen HGz18 4
          have hfz18_5 := blk_frozen HGz18 5
          have hfz18_6 := blk_frozen HGz18 6
          have hfz18_7 := blk_frozen HGz18 7
          have hfz18_8 := blk_frozen HGz18 8
          have hfz18_9 := blk_frozen HGz18 9
          have hfz18_10 := blk_frozen HGz18 10
          clear HGz18 hgz18
          have hp_ : atP g a1 = some ⟨g, 3, none⟩ := by unfold atP; simp only [c6b0, c8b0, c17b0, Bool.false_eq_true, if_true, if_false]
          go_enter Try.func22, Try.ntmps22
          go_wp2_with (first | ((with_reducible refine gate_callee (f := 48) rfl ?_); refine goesL_ (some 11) rfl rfl Try.func48 (by kernel_rfl) rfl #[.pointer (some ⟨g, 0, none⟩), .int .i64 a1] rfl (by (try simp only [List.map_toArray, List.map_cons, List.map_nil]); first | done | rfl) ?_; (with_reducible refine (csr_File_at.calls g a1 _ _ hp_).mono ?_); rintro e w' ⟨rfl, ⟨nd, rfl⟩⟩; refine ⟨_, rfl, ?_⟩))
          go_ret
          exact ⟨by first | rfl | (simp [errW_none, errW_some] <;> rfl) | (simp [*, errW_none, errW_some] <;> rfl), by repeat (first | (with_reducible first | exact HI0.out | apply IsS38.alloc | apply IsS38.drewN | apply IsS38.drew | apply IsS38.set_0 | apply IsS38.set_1 | apply IsS38.set_2 | apply IsS38.set_3 | apply IsS38.set_4 | apply IsS38.set_5 | apply IsS38.set_6 | apply IsS38.set_7 | apply IsS38.set_8 | apply IsS38.set_9 | apply IsS38.set_10) | exact HI0.out), by repeat (first | (with_reducible first | exact HB.out | apply below_alloc | apply pw_below_drewN | apply below_drew1 | refine below_set ?_ (IsS38.ge HI0.out)) | exact HB.out), by repeat (first | (with_reducible first | exact HK.out | apply KeepBut.set_ | apply keep_drewN | apply keep_drew | apply keep_alloc) | exact HK.out)⟩
        · rw [if_neg c17] at H
          have c17b0 : (a1 == 772) = false := beq_eq_false_iff_ne.mpr c17
          have c17b1 : (a1 != 772) = true := bne_iff_ne.mpr c17
          by_cases c19 : a1 = 773
          · rw [if_pos c19] at H
            have c19b0 : (a1 == 773) = true := beq_iff_eq.mpr c19
            have c19b1 : (a1 != 773) = false := bne_eq_false_iff_eq.mpr c19
            clear c19
            simp only [Option.some.injEq, Prod.mk.injEq] at H
            obtain ⟨rfl, rfl, rfl, rfl, rfl, rfl, rfl, rfl, rfl, rfl, rfl, rfl⟩ := H
            obtain ⟨HGz20, hgz20⟩ := HI0.out
            have hcz20_0 := cellS38_0 HGz20
            have hcz20_1 := cellS38_1 HGz20
            have hcz20_2 := cellS38_2 HGz20
            have hcz20_3 := cellS38_3 HGz20
            have hcz20_4 := cellS38_4 HGz20
            have hcz20_5 := cellS38_5 HGz20
            have hcz20_6 := cellS38_6 HGz20
            have hcz20_7 := cellS38_7 HGz20
            have hcz20_8 := cellS38_8 HGz20
            have hcz20_9 := cellS38_9 HGz20
            have hcz20_10 := cellS38_10 HGz20
            have hfz20_0 := blk_frozen HGz20 0
            have hfz20_1 := blk_frozen HGz20 1
            have hfz20_2 := blk_frozen HGz20 2
            have hfz20_3 := blk_frozen HGz20 3
            have hfz20_4 := blk_frozen HGz20 4
            have hfz20_5 := blk_frozen HGz20 5
            have hfz20_6 := blk_frozen HGz20 6
            have hfz20_7 := blk_frozen HGz20 7
            have hfz20_8 := blk_frozen HGz20 8
            have hfz20_9 := blk_frozen HGz20 9
            have hfz20_10 := blk_frozen HGz20 10
            clear HGz20 hgz20
            have hp_ : atP g a1 = some ⟨g, 4, none⟩ := by unfold atP; simp only [c6b0, c8b0, c17b0, c19b0, Bool.false_eq_true, if_true, if_false]
            go_enter Try.func22, Try.ntmps22
            go_wp2_with (first | ((with_reducible refine gate_callee (f := 48) rfl ?_); refine goesL_ (some 11) rfl rfl Try.func48 (by kernel_rfl) rfl #[.pointer (some ⟨g, 0, none⟩), .int .i64 a1] rfl (by (try simp only [List.map_toArray, List.map_cons, List.map_nil]); first | done | rfl) ?_; (with_reducible refine (csr_File_at.calls g a1 _ _ hp_).mono ?_); rintro e w' ⟨rfl, ⟨nd, rfl⟩⟩; refine ⟨_, rfl, ?_⟩))
            go_ret
            exact ⟨by first | rfl | (simp [errW_none, errW_some] <;> rfl) | (simp [*, errW_none, errW_some] <;> rfl), by repeat (first | (with_reducible first | exact HI0.out | apply IsS38.alloc | apply IsS38.drewN | apply IsS38.drew | apply IsS38.set_0 | apply IsS38.set_1 | apply IsS38.set_2 | apply IsS38.set_3 | apply IsS38.set_4 | apply IsS38.set_5 | apply IsS38.set_6 | apply IsS38.set_7 | apply IsS38.set_8 | apply IsS38.set_9 | apply IsS38.set_10) | exact HI0.out), by repeat (first | (with_reducible first | exact HB.out | apply below_alloc | apply pw_below_drewN | apply below_drew1 | refine below_set ?_ (IsS38.ge HI0.out)) | exact HB.out), by repeat (first | (with_reducible first | exact HK.out | apply KeepBut.set_ | apply keep_drewN | apply keep_drew | apply keep_alloc) | exact HK.out)⟩
          · rw [if_neg c19] at H
            have c19b0 : (a1 == 773) = false := beq_eq_false_iff_ne.mpr c19
            have c19b1 : (a1 != 773) = true := bne_iff_ne.mpr c19
            by_cases c21 : a1 = 832
            · rw [if_pos c21] at H
              have c21b0 : (a1 == 832) = true := beq_iff_eq.mpr c21
              have c21b1 : (a1 != 832) = false := bne_eq_false_iff_eq.mpr c21
              clear c21
              simp only [Option.some.injEq, Prod.mk.injEq] at H
              obtain ⟨rfl, rfl, rfl, rfl, rfl, rfl, rfl, rfl, rfl, rfl, rfl, rfl⟩ := H
              obtain ⟨HGz22, hgz22⟩ := HI0.out
              have hcz22_0 := cellS38_0 HGz22
              have hcz22_1 := cellS38_1 HGz22
              have hcz22_2 := cellS38_2 HGz22
              have hcz22_3 := cellS38_3 HGz22
              have hcz22_4 := cellS38_4 HGz22
              have hcz22_5 := cellS38_5 HGz22
              have hcz22_6 := cellS38_6 HGz22
              have hcz22_7 := cellS38_7 HGz22
              have hcz22_8 := cellS38_8 HGz22
              have hcz22_9 := cellS38_9 HGz22
              have hcz22_10 := cellS38_10 HGz22
              have hfz22_0 := blk_frozen HGz22 0
              have hfz22_1 := blk_frozen HGz22 1
              have hfz22_2 := blk_frozen HGz22 2
              have hfz22_3 := blk_frozen HGz22 3
              have hfz22_4 := blk_frozen HGz22 4
              have hfz22_5 := blk_frozen HGz22 5
              have hfz22_6 := blk_frozen HGz22 6
              have hfz22_7 := blk_frozen HGz22 7
              have hfz22_8 := blk_frozen HGz22 8
              have hfz22_9 := blk_frozen HGz22 9
              have hfz22_10 := blk_frozen HGz22 10
              clear HGz22 hgz22
              have hp_ : atP g a1 = some ⟨g, 5, none⟩ := by unfold atP; simp only [c6b0, c8b0, c17b0, c19b0, c21b0, Bool.false_eq_true, if_true, if_false]
              go_enter Try.func22, Try.ntmps22
              go_wp2_with (first | ((with_reducible refine gate_callee (f := 48) rfl ?_); refine goesL_ (some 11) rfl rfl Try.func48 (by kernel_rfl) rfl #[.pointer (some ⟨g, 0, none⟩), .int .i64 a1] rfl (by (try simp only [List.map_toArray, List.map_cons, List.map_nil]); first | done | rfl) ?_; (with_reducible refine (csr_File_at.calls g a1 _ _ hp_).mono ?_); rintro e w' ⟨rfl, ⟨nd, rfl⟩⟩; refine ⟨_, rfl, ?_⟩))
              go_ret
              exact ⟨by first | rfl | (simp [errW_none, errW_some] <;> rfl) | (simp [*, errW_none, errW_some] <;> rfl), by repeat (first | (with_reducible first | exact HI0.out | apply IsS38.alloc | apply IsS38.drewN | apply IsS38.drew | apply IsS38.set_0 | apply IsS38.set_1 | apply IsS38.set_2 | apply IsS38.set_3 | apply IsS38.set_4 | apply IsS38.set_5 | apply IsS38.set_6 | apply IsS38.set_7 | apply IsS38.set_8 | apply IsS38.set_9 | apply IsS38.set_10) | exact HI0.out), by repeat (first | (with_reducible first | exact HB.out | apply below_alloc | apply pw_below_drewN | apply below_drew1 | refine below_set ?_ (IsS38.ge HI0.out)) | exact HB.out), by repeat (first | (with_reducible first | exact HK.out | apply KeepBut.set_ | apply keep_drewN | apply keep_drew | apply keep_alloc) | exact HK.out)⟩
            · rw [if_neg c21] at H
              have c21b0 : (a1 == 832) = false := beq_eq_false_iff_ne.mpr c21
              have c21b1 : (a1 != 832) = true := bne_iff_ne.mpr c21
              by_cases c23 : a1 = 833
              · rw [if_pos c23] at H
                have c23b0 : (a1 == 833) = true := beq_iff_eq.mpr c23
                have c23b1 : (a1 != 833) = false := bne_eq_false_iff_eq.mpr c23
                clear c23
                simp only [Option.some.injEq, Prod.mk.injEq] at H
                obtain ⟨rfl, rfl, rfl, rfl, rfl, rfl, rfl, rfl, rfl, rfl, rfl, rfl⟩ := H
                obtain ⟨HGz24, hgz24⟩ := HI0.out
                have hcz24_0 := cellS38_0 HGz24
                have hcz24_1 := cellS38_1 HGz24
                have hcz24_2 := cellS38_2 HGz24
                have hcz24_3 := cellS38_3 HGz24
                have hcz24_4 := cellS38_4 HGz24
                have hcz24_5 := cellS38_5 HGz24
                have hcz24_6 := cellS38_6 HGz24
                have hcz24_7 := cellS38_7 HGz24
                have hcz24_8 := cellS38_8 HGz24
                have hcz24_9 := cellS38_9 HGz24
                have hcz24_10 := cellS38_10 HGz24
                have hfz24_0 := blk_frozen HGz24 0
                have hfz24_1 := blk_frozen HGz24 1
                have hfz24_2 := blk_frozen HGz24 2
                have hfz24_3 := blk_frozen HGz24 3
                have hfz24_4 := blk_frozen HGz24 4
                have hfz24_5 := blk_frozen HGz24 5
                have hfz24_6 := blk_frozen HGz24 6
                have hfz24_7 := blk_frozen HGz24 7
                have hfz24_8 := blk_frozen HGz24 8
                have hfz24_9 := blk_frozen HGz24 9
                have hfz24_10 := blk_frozen HGz24 10
                clear HGz24 hgz24
                have hp_ : atP g a1 = some ⟨g, 6, none⟩ := by unfold atP; simp only [c6b0, c8b0, c17b0, c19b0, c21b0, c23b0, Bool.false_eq_true, if_true, if_false]
                go_enter Try.func22, Try.ntmps22
                go_wp2_with (first | ((with_reducible refine gate_callee (f := 48) rfl ?_); refine goesL_ (some 11) rfl rfl Try.func48 (by kernel_rfl) rfl #[.pointer (some ⟨g, 0, none⟩), .int .i64 a1] rfl (by (try simp only [List.map_toArray, List.map_cons, List.map_nil]); first | done | rfl) ?_; (with_reducible refine (csr_File_at.calls g a1 _ _ hp_).mono ?_); rintro e w' ⟨rfl, ⟨nd, rfl⟩⟩; refine ⟨_, rfl, ?_⟩))
                go_ret
                exact ⟨by first | rfl | (simp [errW_none, errW_some] <;> rfl) | (simp [*, errW_none, errW_some] <;> rfl), by repeat (first | (with_reducible first | exact HI0.out | apply IsS38.alloc | apply IsS38.drewN | apply IsS38.drew | apply IsS38.set_0 | apply IsS38.set_1 | apply IsS38.set_2 | apply IsS38.set_3 | apply IsS38.set_4 | apply IsS38.set_5 | apply IsS38.set_6 | apply IsS38.set_7 | apply IsS38.set_8 | apply IsS38.set_9 | apply IsS38.set_10) | exact HI0.out), by repeat (first | (with_reducible first | exact HB.out | apply below_alloc | apply pw_below_drewN | apply below_drew1 | refine below_set ?_ (IsS38.ge HI0.out)) | exact HB.out), by repeat (first | (with_reducible first | exact HK.out | apply KeepBut.set_ | apply keep_drewN | apply keep_drew | apply keep_alloc) | exact HK.out)⟩
              · rw [if_neg c23] at H
                have c23b0 : (a1 == 833) = false := beq_eq_false_iff_ne.mpr c23
                have c23b1 : (a1 != 833) = true := bne_iff_ne.mpr c23
                by_cases c25 : a1 = 834
                · rw [if_pos c25] at H
                  have c25b0 : (a1 == 834) = true := beq_iff_eq.mpr c25
                  have c25b1 : (a1 != 834) = false := bne_eq_false_iff_eq.mpr c25
                  clear c25
                  simp only [Option.some.injEq, Prod.mk.injEq] at H
                  obtain ⟨rfl, rfl, rfl, rfl, rfl, rfl, rfl, rfl, rfl, rfl, rfl, rfl⟩ := H
                  obtain ⟨HGz26, hgz26⟩ := HI0.out
                  have hcz26_0 := cellS38_0 HGz26
                  have hcz26_1 := cellS38_1 HGz26
                  have hcz26_2 := cellS38_2 HGz26
                  have hcz26_3 := cellS38_3 HGz26
                  have hcz26_4 := cellS38_4 HGz26
                  have hcz26_5 := cellS38_5 HGz26
                  have hcz26_6 := cellS38_6 HGz26
                  have hcz26_7 := cellS38_7 HGz26
                  have hcz26_8 := cellS38_8 HGz26
                  have hcz26_9 := cellS38_9 HGz26
                  have hcz26_10 := cellS38_10 HGz26
                  have hfz26_0 := blk_frozen HGz26 0
                  have hfz26_1 := blk_frozen HGz26 1
                  have hfz26_2 := blk_frozen HGz26 2
                  have hfz26_3 := blk_frozen HGz26 3
                  have hfz26_4 := blk_frozen HGz26 4
                  have hfz26_5 := blk_frozen HGz26 5
                  have hfz26_6 := blk_frozen HGz26 6
                  have hfz26_7 := blk_frozen HGz26 7
                  have hfz26_8 := blk_frozen HGz26 8
                  have hfz26_9 := blk_frozen HGz26 9
                  have hfz26_10 := blk_frozen HGz26 10
                  clear HGz26 hgz26
                  have hp_ : atP g a1 = some ⟨g, 7, none⟩ := by unfold atP; simp only [c6b0, c8b0, c17b0, c19b0, c21b0, c23b0, c25b0, Bool.false_eq_true, if_true, if_false]
                  go_enter Try.func22, Try.ntmps22
                  go_wp2_with (first | ((with_reducible refine gate_callee (f := 48) rfl ?_); refine goesL_ (some 11) rfl rfl Try.func48 (by kernel_rfl) rfl #[.pointer (some ⟨g, 0, none⟩), .int .i64 a1] rfl (by (try simp only [List.map_toArray, List.map_cons, List.map_nil]); first | done | rfl) ?_; (with_reducible refine (csr_File_at.calls g a1 _ _ hp_).mono ?_); rintro e w' ⟨rfl, ⟨nd, rfl⟩⟩; refine ⟨_, rfl, ?_⟩))
                  go_ret
                  exact ⟨by first | rfl | (simp [errW_none, errW_some] <;> rfl) | (simp [*, errW_none, errW_some] <;> rfl), by repeat (first | (with_reducible first | exact HI0.out | apply IsS38.alloc | apply IsS38.drewN | apply IsS38.drew | apply IsS38.set_0 | apply IsS38.set_1 | apply IsS38.set_2 | apply IsS38.set_3 | apply IsS38.set_4 | apply IsS38.set_5 | apply IsS38.set_6 | apply IsS38.set_7 | apply IsS38.set_8 | apply IsS38.set_9 | apply IsS38.set_10) | exact HI0.out), by repeat (first | (with_reducible first | exact HB.out | apply below_alloc | apply pw_below_drewN | apply below_drew1 | refine below_set ?_ (IsS38.ge HI0.out)) | exact HB.out), by repeat (first | (with_reducible first | exact HK.out | apply KeepBut.set_ | apply keep_drewN | apply keep_drew | apply keep_alloc) | exact HK.out)⟩
                · rw [if_neg c25] at H
                  have c25b0 : (a1 == 834) = false := beq_eq_false_iff_ne.mpr c25
                  have c25b1 : (a1 != 834) = true := bne_iff_ne.mpr c25
                  by_cases c27 : a1 = 835
                  · rw [if_pos c27] at H
                    have c27b0 : (a1 == 835) = true := beq_iff_eq.mpr c27
                    have c27b1 : (a1 != 835) = false := bne_eq_false_iff_eq.mpr c27
                    clear c27
                    simp only [Option.some.injEq, Prod.mk.injEq] at H
                    obtain ⟨rfl, rfl, rfl, rfl, rfl, rfl, rfl, rfl, rfl, rfl, rfl, rfl⟩ := H
                    obtain ⟨HGz28, hgz28⟩ := HI0.out
                    have hcz28_0 := cellS38_0 HGz28
                    have hcz28_1 := cellS38_1 HGz28
                    have hcz28_2 := cellS38_2 HGz28
                    have hcz28_3 := cellS38_3 HGz28
                    have hcz28_4 := cellS38_4 HGz28
                    have hcz28_5 := cellS38_5 HGz28
                    have hcz28_6 := cellS38_6 HGz28
                    have hcz28_7 := cellS38_7 HGz28
                    have hcz28_8 := cellS38_8 HGz28
                    have hcz28_9 := cellS38_9 HGz28
                    have hcz28_10 := cellS38_10 HGz28
                    have hfz28_0 := blk_frozen HGz28 0
                    have hfz28_1 := blk_frozen HGz28 1
                    have hfz28_2 := blk_frozen HGz28 2
                    have hfz28_3 := blk_frozen HGz28 3
                    have hfz28_4 := blk_frozen HGz28 4
                    have hfz28_5 := blk_frozen HGz28 5
                    have hfz28_6 := blk_frozen HGz28 6
                    have hfz28_7 := blk_frozen HGz28 7
                    have hfz28_8 := blk_frozen HGz28 8
                    have hfz28_9 := blk_frozen HGz28 9
                    have hfz28_10 := blk_frozen HGz28 10
                    clear HGz28 hgz28
                    have hp_ : atP g a1 = some ⟨g, 8, none⟩ := by unfold atP; simp only [c6b0, c8b0, c17b0, c19b0, c21b0, c23b0, c25b0, c27b0, Bool.false_eq_true, if_true, if_false]
                    go_enter Try.func22, Try.ntmps22
                    go_wp2_with (first | ((with_reducible refine gate_callee (f := 48) rfl ?_); refine goesL_ (some 11) rfl rfl Try.func48 (by kernel_rfl) rfl #[.pointer (some ⟨g, 0, none⟩), .int .i64 a1] rfl (by (try simp only [List.map_toArray, List.map_cons, List.map_nil]); first | done | rfl) ?_; (with_reducible refine (csr_File_at.calls g a1 _ _ hp_).mono ?_); rintro e w' ⟨rfl, ⟨nd, rfl⟩⟩; refine ⟨_, rfl, ?_⟩))
                    go_ret
                    exact ⟨by first | rfl | (simp [errW_none, errW_some] <;> rfl) | (simp [*, errW_none, errW_some] <;> rfl), by repeat (first | (with_reducible first | exact HI0.out | apply IsS38.alloc | apply IsS38.drewN | apply IsS38.drew | apply IsS38.set_0 | apply IsS38.set_1 | apply IsS38.set_2 | apply IsS38.set_3 | apply IsS38.set_4 | apply IsS38.set_5 | apply IsS38.set_6 | apply IsS38.set_7 | apply IsS38.set_8 | apply IsS38.set_9 | apply IsS38.set_10) | exact HI0.out), by repeat (first | (with_reducible first | exact HB.out | apply below_alloc | apply pw_below_drewN | apply below_drew1 | refine below_set ?_ (IsS38.ge HI0.out)) | exact HB.out), by repeat (first | (with_reducible first | exact HK.out | apply KeepBut.set_ | apply keep_drewN | apply keep_drew | apply keep_alloc) | exact HK.out)⟩
                  · rw [if_neg c27] at H
                    have c27b0 : (a1 == 835) = false := beq_eq_false_iff_ne.mpr c27
                    have c27b1 : (a1 != 835) = true := bne_iff_ne.mpr c27
                    by_cases c29 : a1 = 836
                    · rw [if_pos c29] at H
                      have c29b0 : (a1 == 836) = true := beq_iff_eq.mpr c29
                      have c29b1 : (a1 != 836) = false := bne_eq_false_iff_eq.mpr c29
                      clear c29
                      simp only [Option.some.injEq, Prod.mk.injEq] at H
                      obtain ⟨rfl, rfl, rfl, rfl, rfl, rfl, rfl, rfl, rfl, rfl, rfl, rfl⟩ := H
                      obtain ⟨HGz30, hgz30⟩ := HI0.out
                      have hcz30_0 := cellS38_0 HGz30
                      have hcz30_1 := cellS38_1 HGz30
                      have hcz30_2 := cellS38_2 HGz30
                      have hcz30_3 := cellS38_3 HGz30
                      have hcz30_4 := cellS38_4 HGz30
                      have hcz30_5 := cellS38_5 HGz30
                      have hcz30_6 := cellS38_6 HGz30
                      have hcz30_7 := cellS38_7 HGz30
                      have hcz30_8 := cellS38_8 HGz30
                      have hcz30_9 := cellS38_9 HGz30
                      have hcz30_10 := cellS38_10 HGz30
                      have hfz30_0 := blk_frozen HGz30 0
                      have hfz30_1 := blk_frozen HGz30 1
                      have hfz30_2 := blk_frozen HGz30 2
                      have hfz30_3 := blk_frozen HGz30 3
                      have hfz30_4 := blk_frozen HGz30 4
                      have hfz30_5 := blk_frozen HGz30 5
                      have hfz30_6 := blk_frozen HGz30 6
                      have hfz30_7 := blk_frozen HGz30 7
                      have hfz30_8 := blk_frozen HGz30 8
                      have hfz30_9 := blk_frozen HGz30 9
                      have hfz30_10 := blk_frozen HGz30 10
                      clear HGz30 hgz30
                      have hp_ : atP g a1 = some ⟨g, 9, none⟩ := by unfold atP; simp only [c6b0, c8b0, c17b0, c19b0, c21b0, c23b0, c25b0, c27b0, c29b0, Bool.false_eq_true, if_true, if_false]
                      go_enter Try.func22, Try.ntmps22
                      go_wp2_with (first | ((with_reducible refine gate_callee (f := 48) rfl ?_); refine goesL_ (some 11) rfl rfl Try.func48 (by kernel_rfl) rfl #[.pointer (some ⟨g, 0, none⟩), .int .i64 a1] rfl (by (try simp only [List.map_toArray, List.map_cons, List.map_nil]); first | done | rfl) ?_; (with_reducible refine (csr_File_at.calls g a1 _ _ hp_).mono ?_); rintro e w' ⟨rfl, ⟨nd, rfl⟩⟩; refine ⟨_, rfl, ?_⟩))
                      go_ret
                      exact ⟨by first | rfl | (simp [errW_none, errW_some] <;> rfl) | (simp [*, errW_none, errW_some] <;> rfl), by repeat (first | (with_reducible first | exact HI0.out | apply IsS38.alloc | apply IsS38.drewN | apply IsS38.drew | apply IsS38.set_0 | apply IsS38.set_1 | apply IsS38.set_2 | apply IsS38.set_3 | apply IsS38.set_4 | apply IsS38.set_5 | apply IsS38.set_6 | apply IsS38.set_7 | apply IsS38.set_8 | apply IsS38.set_9 | apply IsS38.set_10) | exact HI0.out), by repeat (first | (with_reducible first | exact HB.out | apply below_alloc | apply pw_below_drewN | apply below_drew1 | refine below_set ?_ (IsS38.ge HI0.out)) | exact HB.out), by repeat (first | (with_reducible first | exact HK.out | apply KeepBut.set_ | apply keep_drewN | apply keep_drew | apply keep_alloc) | exact HK.out)⟩
                    · rw [if_neg c29] at H
                      have c29b0 : (a1 == 836) = false := beq_eq_false_iff_ne.mpr c29
                      have c29b1 : (a1 != 836) = true := bne_iff_ne.mpr c29
                      by_cases c31 : a1 = 3860
                      · rw [if_pos c31] at H
                        have c31b0 : (a1 == 3860) = true := beq_iff_eq.mpr c31
                        have c31b1 : (a1 != 3860) = false := bne_eq_false_iff_eq.mpr c31
                        clear c31
                        simp only [Option.some.injEq, Prod.mk.injEq] at H
                        obtain ⟨rfl, rfl, rfl, rfl, rfl, rfl, rfl, rfl, rfl, rfl, rfl, rfl⟩ := H
                        obtain ⟨HGz32, hgz32⟩ := HI0.out
                        have hcz32_0 := cellS38_0 HGz32
                        have hcz32_1 := cellS38_1 HGz32
                        have hcz32_2 := cellS38_2 HGz32
                        have hcz32_3 := cellS38_3 HGz32
                        have hcz32_4 := cellS38_4 HGz32
                        have hcz32_5 := cellS38_5 HGz32
                        have hcz32_6 := cellS38_6 HGz32
                        have hcz32_7 := cellS38_7 HGz32
                        have hcz32_8 := cellS38_8 HGz32
                        have hcz32_9 := cellS38_9 HGz32
                        have hcz32_10 := cellS38_10 HGz32
                        have hfz32_0 := blk_frozen HGz32 0
                        have hfz32_1 := blk_frozen HGz32 1
                        have hfz32_2 := blk_frozen HGz32 2
                        have hfz32_3 := blk_frozen HGz32 3
                        have hfz32_4 := blk_frozen HGz32 4
                        have hfz32_5 := blk_frozen HGz32 5
                        have hfz32_6 := blk_frozen HGz32 6
                        have hfz32_7 := blk_frozen HGz32 7
                        have hfz32_8 := blk_frozen HGz32 8
                        have hfz32_9 := blk_frozen HGz32 9
                        have hfz32_10 := blk_frozen HGz32 10
                        clear HGz32 hgz32
                        have hp_ : atP g a1 = some ⟨g, 10, none⟩ := by unfold atP; simp only [c6b0, c8b0, c17b0, c19b0, c21b0, c23b0, c25b0, c27b0, c29b0, c31b0, Bool.false_eq_true, if_true, if_false]
                        go_enter Try.func22, Try.ntmps22
                        go_wp2_with (first | ((with_reducible refine gate_callee (f := 48) rfl ?_); refine goesL_ (some 11) rfl rfl Try.func48 (by kernel_rfl) rfl #[.pointer (some ⟨g, 0, none⟩), .int .i64 a1] rfl (by (try simp only [List.map_toArray, List.map_cons, List.map_nil]); first | done | rfl) ?_; (with_reducible refine (csr_File_at.calls g a1 _ _ hp_).mono ?_); rintro e w' ⟨rfl, ⟨nd, rfl⟩⟩; refine ⟨_, rfl, ?_⟩))
                        go_ret
                        exact ⟨by first | rfl | (simp [errW_none, errW_some] <;> rfl) | (simp [*, errW_none, errW_some] <;> rfl), by repeat (first | (with_reducible first | exact HI0.out | apply IsS38.alloc | apply IsS38.drewN | apply IsS38.drew | apply IsS38.set_0 | apply IsS38.set_1 | apply IsS38.set_2 | apply IsS38.set_3 | apply IsS38.set_4 | apply IsS38.set_5 | apply IsS38.set_6 | apply IsS38.set_7 | apply IsS38.set_8 | apply IsS38.set_9 | apply IsS38.set_10) | exact HI0.out), by repeat (first | (with_reducible first | exact HB.out | apply below_alloc | apply pw_below_drewN | apply below_drew1 | refine below_set ?_ (IsS38.ge HI0.out)) | exact HB.out), by repeat (first | (with_reducible first | exact HK.out | apply KeepBut.set_ | apply keep_drewN | apply keep_drew | apply keep_alloc) | exact HK.out)⟩
                      · rw [if_neg c31] at H
                        have c31b0 : (a1 == 3860) = false := beq_eq_false_iff_ne.mpr c31
                        have c31b1 : (a1 != 3860) = true := bne_iff_ne.mpr c31
                        simp only [Option.some.injEq, Prod.mk.injEq] at H
                        obtain ⟨rfl, rfl, rfl, rfl, rfl, rfl, rfl, rfl, rfl, rfl, rfl, rfl⟩ := H
                        obtain ⟨HGz33, hgz33⟩ := HI0.out
                        have hcz33_0 := cellS38_0 HGz33
                        have hcz33_1 := cellS38_1 HGz33
                        have hcz33_2 := cellS38_2 HGz33
                        have hcz33_3 := cellS38_3 HGz33
                        have hcz33_4 := cellS38_4 HGz33
                        have hcz33_5 := cellS38_5 HGz33
                        have hcz33_6 := cellS38_6 HGz33
                        have hcz33_7 := cellS38_7 HGz33
                        have hcz33_8 := cellS38_8 HGz33
                        have hcz33_9 := cellS38_9 HGz33
                        have hcz33_10 := cellS38_10 HGz33
                        have hfz33_0 := blk_frozen HGz33 0
                        have hfz33_1 := blk_frozen HGz33 1
                        have hfz33_2 := blk_frozen HGz33 2
                        have hfz33_3 := blk_frozen HGz33 3
                        have hfz33_4 := blk_frozen HGz33 4
                        have hfz33_5 := blk_frozen HGz33 5
                        have hfz33_6 := blk_frozen HGz33 6
                        have hfz33_7 := blk_frozen HGz33 7
                        have hfz33_8 := blk_frozen HGz33 8
                        have hfz33_9 := blk_frozen HGz33 9
                        have hfz33_10 := blk_frozen HGz33 10
                        clear HGz33 hgz33
                        have hp_ : atP g a1 = none := by unfold atP; simp only [c6b0, c8b0, c17b0, c19b0, c21b0, c23b0, c25b0, c27b0, c29b0, c31b0, Bool.false_eq_true, if_true, if_false]
                        go_enter Try.func22, Try.ntmps22
                        go_wp2_with (first | ((with_reducible refine gate_callee (f := 48) rfl ?_); refine goesL_ (some 11) rfl rfl Try.func48 (by kernel_rfl) rfl #[.pointer (some ⟨g, 0, none⟩), .int .i64 a1] rfl (by (try simp only [List.map_toArray, List.map_cons, List.map_nil]); first | done | rfl) ?_; (with_reducible refine (csr_File_at.calls g a1 _ _ hp_).mono ?_); rintro e w' ⟨rfl, ⟨nd, rfl⟩⟩; refine ⟨_, rfl, ?_⟩))
                        go_ret
                        exact ⟨by first | rfl | (simp [errW_none, errW_some] <;> rfl) | (simp [*, errW_none, errW_some] <;> rfl), by repeat (first | (with_reducible first | exact HI0.out | apply IsS38.alloc | apply IsS38.drewN | apply IsS38.drew | apply IsS38.set_0 | apply IsS38.set_1 | apply IsS38.set_2 | apply IsS38.set_3 | apply IsS38.set_4 | apply IsS38.set_5 | apply IsS38.set_6 | apply IsS38.set_7 | apply IsS38.set_8 | apply IsS38.set_9 | apply IsS38.set_10) | exact HI0.out), by repeat (first | (with_reducible first | exact HB.out | apply below_alloc | apply pw_below_drewN | apply below_drew1 | refine below_set ?_ (IsS38.ge HI0.out)) | exact HB.out), by repeat (first | (with_reducible first | exact HK.out | apply KeepBut.set_ | apply keep_drewN | apply keep_drew | apply keep_alloc) | exact HK.out)⟩

end Go.Proofs.Ytcaohimipkoapaa.QCsrMasks
