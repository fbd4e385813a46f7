-- Laid by a program of this session (wip/tpl/mine.sh), out of the program's form in Lean: Lean checks it.
import Derived.Test.YtecmjcfhbedelaaQWalkEndsx0
namespace Go.Proofs.Ytecmjcfhbedelaa.QWalkEnds
open Go.RowKit Go.Proofs.YtecmjcfhbedelaaW.PrintWords Go.Proofs.YtecmjcfhbedelaaW.PrintLast Go.Proofs.YtecmjcfhbedelaaW.PrintMore
attribute [local go_sem] max2_int min2_int max_two min_two max_three min_three max_four min_four   -- for this text's walks alone
set_option linter.unusedVariables false
set_option linter.unusedSimpArgs false

/-! ### word_mask: function 56 -/
def word_mask.f (a0 : Int) : Option (Int) := if a0 ≥ 32 then (some 4294967295) else (some (((shl .u32 1 (mx a0 0)) - 1) % 4294967296))
set_option maxHeartbeats 8000000 in
set_option maxRecDepth 100000 in
theorem word_mask.calls (a0 : Int) (r : Int) (w : World) (h : word_mask.f a0 = some r) :
    Calls Try.prog 56 #[.int .i64 a0] w fun e w' => e = .returned (.int .u32 r) ∧ Below w.heap.size w w' := by
  have HB := Aside0.mk (Below.refl w.heap.size w)
  have H : (if a0 ≥ 32 then (some 4294967295) else (some (((shl .u32 1 (mx a0 0)) - 1) % 4294967296))) = some r := h
  clear h
  by_cases c2 : a0 ≥ 32
  · rw [if_pos c2] at H
    have c2b0 : decide (32 ≤ a0) = true := decide_eq_true c2
    clear c2
    obtain rfl := Option.some.inj H
    go_enter Try.func56, Try.ntmps56
    go_wp2
    go_ret
    exact ⟨by first | rfl | (simp [errW_none, errW_some] <;> rfl) | (simp [*, errW_none, errW_some] <;> rfl), by repeat (first | (with_reducible first | exact HB.out | apply below_alloc | apply pw_below_drewN | apply below_drew1) | exact HB.out)⟩
  · rw [if_neg c2] at H
    have c2b0 : decide (32 ≤ a0) = false := decide_eq_false c2
    clear c2
    obtain ⟨ji3, hji3⟩ : ∃ j_ : Int, (mx a0 0) = j_ := ⟨_, rfl⟩
    replace H : (some (((shl .u32 1 (ji3)) - 1) % 4294967296)) = some r := by first | (rw [hji3] at H; exact H) | (simp only [hji3] at H ⊢; exact H)
    (try (have hji3l : 0 ≤ ji3 := by (rw [← hji3]; unfold mx; (repeat' split) <;> omega)))
    (try (have hji3m : 0 ≤ ji3 := by omega))
    have hji3_ : (if a0 < 0 then 0 else a0) = ji3 := hji3
    obtain ⟨ji4, hji4⟩ : ∃ j_ : Int, (shl .u32 1 (ji3)) = j_ := ⟨_, rfl⟩
    replace H : (some (((ji4) - 1) % 4294967296)) = some r := by first | (rw [hji4] at H; exact H) | (simp only [hji4] at H ⊢; exact H)
    have hji4_ : (IntKind.u32.wrap (1 * 2 ^ min (ji3).toNat 32)) = ji4 := hji4
    have hji4z : (ji3) ≤ 32 → (IntKind.u32.wrap (1 * 2 ^ (ji3).toNat)) = ji4 := shl_small hji4
    have hji4u : (IntKind.u32.wrap (2 ^ min (ji3).toNat 32)) = ji4 := by have h_ := hji4_; rw [Int.one_mul] at h_; exact h_
    have hji4v : (ji3) ≤ 32 → (IntKind.u32.wrap (2 ^ (ji3).toNat)) = ji4 := fun hle_ => by have h_ := hji4z hle_; rw [Int.one_mul] at h_; exact h_
    obtain rfl := Option.some.inj H
    go_enter Try.func56, Try.ntmps56
    go_wp2
    go_ret
    exact ⟨by first | rfl | (simp [errW_none, errW_some] <;> rfl) | (simp only [← hji3, ← hji4]; first | rfl | (simp [errW_none, errW_some] <;> rfl)) | (simp [*, errW_none, errW_some] <;> rfl), by repeat (first | (with_reducible first | exact HB.out | apply below_alloc | apply pw_below_drewN | apply below_drew1) | exact HB.out)⟩

/-! ### word_Bits: function 44 -/
def word_Bits.f (a0 : Int) (a1 : Int) (a2 : Int) : Option (Int) := if a1 < 0 then (some 0) else (if a1 ≥ 32 then (some 0) else (if a2 < 1 then (some 0) else (if 0 ≤ a1 then ((word_mask.f a2).bind fun t101 => (some (Go.bits .and .u32 (shr .u32 a0 a1) t101))) else (none))))
set_option maxHeartbeats 8000000 in
set_option maxRecDepth 100000 in
theorem word_Bits.calls (a0 : Int) (a1 : Int) (a2 : Int) (r : Int) (w : World) (h : word_Bits.f a0 a1 a2 = some r) :
    Calls Try.prog 44 #[.int .u32 a0, .int .i64 a1, .int .i64 a2] w fun e w' => e = .returned (.int .u32 r) ∧ Below w.heap.size w w' := by
  have HB := Aside0.mk (Below.refl w.heap.size w)
  have H : (if a1 < 0 then (some 0) else (if a1 ≥ 32 then (some 0) else (if a2 < 1 then (some 0) else (if 0 ≤ a1 then ((word_mask.f a2).bind fun t101 => (some (Go.bits .and .u32 (shr .u32 a0 a1) t101))) else (none))))) = some r := h
  clear h
  by_cases c4 : a1 < 0
  · rw [if_pos c4] at H
    have c4b0 : decide (a1 < 0) = true := decide_eq_true c4
    clear c4
    obtain rfl := Option.some.inj H
    go_enter Try.func44, Try.ntmps44
    go_wp2
    go_ret
    exact ⟨by first | rfl | (simp [errW_none, errW_some] <;> rfl) | (simp [*, errW_none, errW_some] <;> rfl), by repeat (first | (with_reducible first | exact HB.out | apply below_alloc | apply pw_below_drewN | apply below_drew1) | exact HB.out)⟩
  · rw [if_neg c4] at H
    have c4b0 : decide (a1 < 0) = false := decide_eq_false c4
    clear c4
    by_cases c5 : a1 ≥ 32
    · rw [if_pos c5] at H
      have c5b0 : decide (32 ≤ a1) = true := decide_eq_true c5
      clear c5
      obtain rfl := Option.some.inj H
      go_enter Try.func44, Try.ntmps44
      go_wp2
      go_ret
      exact ⟨by first | rfl | (simp [errW_none, errW_some] <;> rfl) | (simp [*, errW_none, errW_some] <;> rfl), by repeat (first | (with_reducible first | exact HB.out | apply below_alloc | apply pw_below_drewN | apply below_drew1) | exact HB.out)⟩
    · rw [if_neg c5] at H
      have c5b0 : decide (32 ≤ a1) = false := decide_eq_false c5
      clear c5
      by_cases c6 : a2 < 1
      · rw [if_pos c6] at H
        have c6b0 : decide (a2 < 1) = true := decide_eq_true c6
        clear c6
        obtain rfl := Option.some.inj H
        go_enter Try.func44, Try.ntmps44
        go_wp2
        go_ret
        exact ⟨by first | rfl | (simp [errW_none, errW_some] <;> rfl) | (simp [*, errW_none, errW_some] <;> rfl), by repeat (first | (with_reducible first | exact HB.out | apply below_alloc | apply pw_below_drewN | apply below_drew1) | exact HB.out)⟩
      · rw [if_neg c6] at H
        have c6b0 : decide (a2 < 1) = false := decide_eq_false c6
        clear c6
        by_cases c7 : 0 ≤ a1
        · rw [if_pos c7] at H
          have c7b0 := eq_true c7
          have c7b1 : decide (0 ≤ a1) = true := decide_eq_true c7
          clear c7
          obtain ⟨ji8, hji8⟩ : ∃ j_ : Int, (shr .u32 a0 a1) = j_ := ⟨_, rfl⟩
          replace H : ((word_mask.f a2).bind fun t101 => (some (Go.bits .and .u32 (ji8) t101))) = some r := by first | (rw [hji8] at H; exact H) | (simp only [hji8] at H ⊢; exact H)
          have hji8_ : (a0 / 2 ^ min a1.toNat 32) = ji8 := hji8
          have hji8z : a1 ≤ 32 → (a0 / 2 ^ a1.toNat) = ji8 := shr_small hji8
          replace H := Option.bind_eq_some_iff.mp H
          obtain ⟨t101, A90, H⟩ := H
          replace H : (some (Go.bits .and .u32 (ji8) t101)) = some r := H
          have A9 := Aside0.mk A90
          clear A90
          obtain rfl := Option.some.inj H
          go_enter Try.func44, Try.ntmps44
          try go_wp2
          have n0_ := Aside0.mk (below_drew1 HB.out)
          clear HB
          have HB := n0_
          clear n0_
          refine start_ (n := 7) (S := fun w' => True) (ds := []) #[false, false, false, false, false, false, false] (by kernel_rfl) rfl rfl trivial (fun hHeld => ?_)
          generalize w.drew = w10 at HB hHeld ⊢
          refine pure_ (i := 0) (N := some 17) (v := ?_) (a' := ?_) #[true, false, false, false, false, false, false] rfl rfl (by kernel_rfl) (fun _ _ _ h => h) (Or.inl ⟨by rfl, ?_⟩) ?_ ?_
          rotate_left
          · intro w'
            go_simp
            with_reducible rfl
          rotate_left
          · simp only [Act.put, List.setIfInBounds_toArray, List.set_cons_zero, List.set_cons_succ, i64_w, i32_w]
            rfl
          refine pure_ (i := 1) (N := some 18) (v := ?_) (a' := ?_) #[true, true, false, false, false, false, false] rfl rfl (by kernel_rfl) (fun _ _ _ h => h) (Or.inl ⟨by rfl, ?_⟩) ?_ ?_
          rotate_left
          · intro w'
            go_simp
            with_reducible rfl
          rotate_left
          · simp only [Act.put, List.setIfInBounds_toArray, List.set_cons_zero, List.set_cons_succ, i64_w, i32_w]
            rfl
          refine pure_ (i := 2) (N := some 19) (v := ?_) (a' := ?_) #[true, true, true, false, false, false, false] rfl rfl (by kernel_rfl) (fun _ _ _ h => h) (Or.inl ⟨by rfl, ?_⟩) ?_ ?_
          rotate_left
          · intro w'
            go_simp
            with_reducible rfl
          rotate_left
          · simp only [Act.put, List.setIfInBounds_toArray, List.set_cons_zero, List.set_cons_succ, i64_w, i32_w]
            rfl
          refine pure_ (i := 3) (N := some 20) (v := ?_) (a' := ?_) #[true, true, true, true, false, false, false] rfl rfl (by kernel_rfl) (fun _ _ _ h => h) (Or.inl ⟨by rfl, ?_⟩) ?_ ?_
          rotate_left
          · intro w'
            go_simp
            with_reducible rfl
          rotate_left
          · simp only [Act.put, List.setIfInBounds_toArray, List.set_cons_zero, List.set_cons_succ, i64_w, i32_w]
            rfl
          refine one_ (i := 4) (N := some 21) #[true, true, true, true, true, false, false] rfl rfl (by kernel_rfl) (by decide) (fun K hK => ?_)
          refine goes_ Try.func56 (by kernel_rfl) rfl #[.int .i64 a2] (by rfl) rfl rfl (by (try simp only [List.map_toArray, List.map_cons, List.map_nil]); first | done | rfl | (simp only [List.length_drop, List.length_take]; rfl)) ?_
          with_reducible refine (word_mask.calls a2 t101 _ A9.out).mono ?_
          rintro e w11 ⟨rfl, hb⟩
          refine ⟨_, rfl, ?_⟩
          have n0_ := Aside0.mk (below_step (by repeat (first | (with_reducible first | exact HB.out | apply below_alloc | apply pw_below_drewN | apply below_drew1) | exact HB.out)) hb)
          clear HB
          have HB := n0_
          clear n0_
          (try clear hb)
          (try clear hb2)
          (try clear hk)
          (try clear hi)
          refine hK.out _ _ trivial (fun hHeld => ?_)
          clear hK K
          refine norm_ (a' := ?_) ?_ ?_
          rotate_left
          · show Act.put _ (some 21) _ = _
            simp only [Act.put, List.setIfInBounds_toArray, List.set_cons_zero, List.set_cons_succ, i64_w, i32_w]
            rfl
          refine pure_ (i := 5) (N := some 22) (v := ?_) (a' := ?_) #[true, true, true, true, true, true, false] rfl rfl (by kernel_rfl) (fun _ _ _ h => h) (Or.inl ⟨by rfl, ?_⟩) ?_ ?_
          rotate_left
          · intro w'
            go_simp
            with_reducible rfl
          rotate_left
          · simp only [Act.put, List.setIfInBounds_toArray, List.set_cons_zero, List.set_cons_succ, i64_w, i32_w]
            rfl
          refine pure_ (i := 6) (N := some 6) (v := ?_) (a' := ?_) #[true, true, true, true, true, true, true] rfl rfl (by kernel_rfl) (fun _ _ _ h => h) (Or.inl ⟨by rfl, ?_⟩) ?_ ?_
          rotate_left
          · intro w'
            go_simp
            with_reducible rfl
          rotate_left
          · simp only [Act.put, List.setIfInBounds_toArray, List.set_cons_zero, List.set_cons_succ, i64_w, i32_w]
            rfl
          refine done_ (by kernel_rfl) ?_
          try go_wp2
          go_ret
          exact ⟨by first | rfl | (simp [errW_none, errW_some] <;> rfl) | (simp only [← hji8]; first | rfl | (simp [errW_none, errW_some] <;> rfl)) | (simp [*, errW_none, errW_some] <;> rfl), by repeat (first | (with_reducible first | exact HB.out | apply below_alloc | apply pw_below_drewN | apply below_drew1) | exact HB.out)⟩
        · rw [if_neg c7] at H
          exact absurd H (by simp)

/-! ### walk_Entries: function 22 -/
def walk_Entries.f (a0 : Int) (a1 : Int) : Option (Int) := if a1 = 3 then (some 0) else ((word_Bits.f a0 31 1).bind fun t102 => (if t102 = 0 then (some 0) else (some 2)))
set_option maxHeartbeats 8000000 in
set_option maxRecDepth 100000 in
theorem walk_Entries.calls (a0 : Int) (a1 : Int) (r : Int) (w : World) (h : walk_Entries.f a0 a1 = some r) :
    Calls Try.prog 22 #[.int .u32 a0, .int .i64 a1] w fun e w' => e = .returned (.int .i64 r) ∧ Below w.heap.size w w' := by
  have HB := Aside0.mk (Below.refl w.heap.size w)
  have H : (if a1 = 3 then (some 0) else ((word_Bits.f a0 31 1).bind fun t102 => (if t102 = 0 then (some 0) else (some 2)))) = some r := h
  clear h
  by_cases c3 : a1 = 3
  · rw [if_pos c3] at H
    have c3b0 : (a1 == 3) = true := beq_iff_eq.mpr c3
    have c3b1 : (a1 != 3) = false := bne_eq_false_iff_eq.mpr c3
    clear c3
    obtain rfl := Option.some.inj H
    go_enter Try.func22, Try.ntmps22
    go_wp2
    go_ret
    exact ⟨by first | rfl | (simp [errW_none, errW_some] <;> rfl) | (simp [*, errW_none, errW_some] <;> rfl), by repeat (first | (with_reducible first | exact HB.out | apply below_alloc | apply pw_below_drewN | apply below_drew1) | exact HB.out)⟩
  · rw [if_neg c3] at H
    have c3b0 : (a1 == 3) = false := beq_eq_false_iff_ne.mpr c3
    have c3b1 : (a1 != 3) = true := bne_iff_ne.mpr c3
    replace H := Option.bind_eq_some_iff.mp H
    obtain ⟨t102, A40, H⟩ := H
    replace H : (if t102 = 0 then (some 0) else (some 2)) = some r := H
    have A4 := Aside0.mk A40
    clear A40
    by_cases c5 : t102 = 0
    · rw [if_pos c5] at H
      have c5b0 : (t102 == 0) = true := beq_iff_eq.mpr c5
      have c5b1 : (t102 != 0) = false := bne_eq_false_iff_eq.mpr c5
      clear c5
      obtain rfl := Option.some.inj H
      go_enter Try.func22, Try.ntmps22
      go_wp2_with (first | (go_at_call 44; (with_reducible refine (word_Bits.calls a0 31 1 t102 _ A4.out).mono ?_); rintro e w6 ⟨rfl, hb⟩; have n0_ := Aside0.mk (below_step (by repeat (first | (with_reducible first | exact HB.out | apply below_alloc | apply pw_below_drewN | apply below_drew1) | exact HB.out)) hb); clear HB; have HB := n0_; clear n0_; (try clear hb); (try clear hb2); (try clear hk); (try clear hi)))
      go_ret
      exact ⟨by first | rfl | (simp [errW_none, errW_some] <;> rfl) | (simp [*, errW_none, errW_some] <;> rfl), by repeat (first | (with_reducible first | exact HB.out | apply below_alloc | apply pw_below_drewN | apply below_drew1) | exact HB.out)⟩
    · rw [if_neg c5] at H
      have c5b0 : (t102 == 0) = false := beq_eq_false_iff_ne.mpr c5
      have c5b1 : (t102 != 0) = true := bne_iff_ne.mpr c5
      obtain rfl := Option.some.inj H
      go_enter Try.func22, Try.ntmps22
      go_wp2_with (first | (go_at_call 44; (with_reducible refine (word_Bits.calls a0 31 1 t102 _ A4.out).mono ?_); rintro e w7 ⟨rfl, hb⟩; have n0_ := Aside0.mk (below_step (by repeat (first | (with_reducible first | exact HB.out | apply below_alloc | apply pw_below_drewN | apply below_drew1) | exact HB.out)) hb); clear HB; have HB := n0_; clear n0_; (try clear hb); (try clear hb2); (try clear hk); (try clear hi)))
      go_ret
      exact ⟨by first | rfl | (simp [errW_none, errW_some] <;> rfl) | (simp [*, errW_none, errW_some] <;> rfl), by repeat (first | (with_reducible first | exact HB.out | apply below_alloc | apply pw_below_drewN | apply below_drew1) | exact HB.out)⟩

/-! ### pte_Cause: function 25 -/
def pte_Cause.f (a0 : Int) (a1 : Bool) : Option (Int) := if a0 = 1 then (if a1 = true then (some 12) else (some 1)) else (if a0 = 2 then (if a1 = true then (some 13) else (some 5)) else (if a0 = 3 then (if a1 = true then (some 15) else (some 7)) else (some 2)))
set_option maxHeartbeats 8000000 in
set_option maxRecDepth 100000 in
theorem pte_Cause.calls (a0 : Int) (a1 : Bool) (r : Int) (w : World) (h : pte_Cause.f a0 a1 = some r) :
    Calls Try.prog 25 #[.int .i64 a0, .bool a1] w fun e w' => e = .returned (.int .u32 r) ∧ Drawn0 w w' := by
  have H : (if a0 = 1 then (if a1 = true then (some 12) else (some 1)) else (if a0 = 2 then (if a1 = true then (some 13) else (some 5)) else (if a0 = 3 then (if a1 = true then (some 15) else (some 7)) else (some 2)))) = some r := h
  clear h
  by_cases c3 : a0 = 1
  · rw [if_pos c3] at H
    have c3b0 : (a0 == 1) = true := beq_iff_eq.mpr c3
    have c3b1 : (a0 != 1) = false := bne_eq_false_iff_eq.mpr c3
    clear c3
    by_cases c4 : a1 = true
    · subst c4
      have H1 : (some 12) = some r := by rw [if_pos rfl] at H; exact H
      clear H
      have H := H1
      clear H1
      obtain rfl := Option.some.inj H
      go_enter Try.func25, Try.ntmps25
      go_wp2
      go_ret
      exact ⟨by first | rfl | (simp; done) | (simp [*]; done), by repeat (first | exact Drawn0.refl _ | apply Drawn0.step)⟩
    · replace c4 := Bool.eq_false_iff.mpr c4
      subst c4
      have H1 : (some 1) = some r := by rw [if_neg (show ¬ (false = true) by decide)] at H; exact H
      clear H
      have H := H1
      clear H1
      obtain rfl := Option.some.inj H
      go_enter Try.func25, Try.ntmps25
      go_wp2
      go_ret
      exact ⟨by first | rfl | (simp; done) | (simp [*]; done), by repeat (first | exact Drawn0.refl _ | apply Drawn0.step)⟩
  · rw [if_neg c3] at H
    have c3b0 : (a0 == 1) = false := beq_eq_false_iff_ne.mpr c3
    have c3b1 : (a0 != 1) = true := bne_iff_ne.mpr c3
    by_cases c5 : a0 = 2
    · rw [if_pos c5] at H
      have c5b0 : (a0 == 2) = true := beq_iff_eq.mpr c5
      have c5b1 : (a0 != 2) = false := bne_eq_false_iff_eq.mpr c5
      clear c5
      by_cases c6 : a1 = true
      · subst c6
        have H1 : (some 13) = some r := by rw [if_pos rfl] at H; exact H
        clear H
        have H := H1
        clear H1
        obtain rfl := Option.some.inj H
        go_enter Try.func25, Try.ntmps25
        go_wp2
        go_ret
        exact ⟨by first | rfl | (simp; done) | (simp [*]; done), by repeat (first | exact Drawn0.refl _ | apply Drawn0.step)⟩
      · replace c6 := Bool.eq_false_iff.mpr c6
        subst c6
        have H1 : (some 5) = some r := by rw [if_neg (show ¬ (false = true) by decide)] at H; exact H
        clear H
        have H := H1
        clear H1
        obtain rfl := Option.some.inj H
        go_enter Try.func25, Try.ntmps25
        go_wp2
        go_ret
        exact ⟨by first | rfl | (simp; done) | (simp [*]; done), by repeat (first | exact Drawn0.refl _ | apply Drawn0.step)⟩
    · rw [if_neg c5] at H
      have c5b0 : (a0 == 2) = false := beq_eq_false_iff_ne.mpr c5
      have c5b1 : (a0 != 2) = true := bne_iff_ne.mpr c5
      by_cases c7 : a0 = 3
      · rw [if_pos c7] at H
        have c7b0 : (a0 == 3) = true := beq_iff_eq.mpr c7
        have c7b1 : (a0 != 3) = false := bne_eq_false_iff_eq.mpr c7
        clear c7
        by_cases c8 : a1 = true
        · subst c8
          have H1 : (some 15) = some r := by rw [if_pos rfl] at H; exact H
          clear H
          have H := H1
          clear H1
          obtain rfl := Option.some.inj H
          go_enter Try.func25, Try.ntmps25
          go_wp2
          go_ret
          exact ⟨by first | rfl | (simp; done) | (simp [*]; done), by repeat (first | exact Drawn0.refl _ | apply Drawn0.step)⟩
        · replace c8 := Bool.eq_false_iff.mpr c8
          subst c8
          have H1 : (some 7) = some r := by rw [if_neg (show ¬ (false = true) by decide)] at H; exact H
          clear H
          have H := H1
          clear H1
          obtain rfl := Option.some.inj H
          go_enter Try.func25, Try.ntmps25
          go_wp2
          go_ret
          exact ⟨by first | rfl | (simp; done) | (simp [*]; done), by repeat (first | exact Drawn0.refl _ | apply Drawn0.step)⟩
      · rw [if_neg c7] at H
        have c7b0 : (a0 == 3) = false := beq_eq_false_iff_ne.mpr c7
        have c7b1 : (a0 != 3) = true := bne_iff_ne.mpr c7
        obtain rfl := Option.some.inj H
        go_enter Try.func25, Try.ntmps25
        go_wp2
        go_ret
        exact ⟨by first | rfl | (simp; done) | (simp [*]; done), by repeat (first | exact Drawn0.refl _ | apply Drawn0.step)⟩

/-! ### walk_fault: function 43 -/
def walk_fault.f (a0 : Int) (a1 : Bool) : Option (Int × Int × Int × Int × Int) := (pte_Cause.f a0 a1).bind fun t104 => (some (2, 0, 0, 0, t104))
set_option maxHeartbeats 8000000 in
set_option maxRecDepth 100000 in
theorem walk_fault.calls (a0 : Int) (a1 : Bool) (r1 : Int) (r2 : Int) (r3 : Int) (r4 : Int) (r5 : Int) (w : World) (h : walk_fault.f a0 a1 = some (r1, r2, r3, r4, r5)) :
    Calls Try.prog 43 #[.int .i64 a0, .bool a1] w fun e w' => e = .returned (.agg #[.int .i64 r1, .int .u32 r2, .int .u32 r3, .int .u32 r4, .int .u32 r5]) ∧ Below w.heap.size w w' := by
  have hu48 := Try.underlying48
  have HB := Aside0.mk (Below.refl w.heap.size w)
  have H : ((pte_Cause.f a0 a1).bind fun t104 => (some (2, 0, 0, 0, t104))) = some (r1, r2, r3, r4, r5) := h
  clear h
  replace H := Option.bind_eq_some_iff.mp H
  obtain ⟨t104, A30, H⟩ := H
  replace H : (some (2, 0, 0, 0, t104)) = some (r1, r2, r3, r4, r5) := H
  have A3 := Aside0.mk A30
  clear A30
  simp only [Option.some.injEq, Prod.mk.injEq] at H
  obtain ⟨rfl, rfl, rfl, rfl, rfl⟩ := H
  go_enter Try.func43, Try.ntmps43
  go_wp2_with (first | ((with_reducible refine gate_dst (N := 4) rfl ?_); refine box_event ?hg (N := 4) ?hd (cs := #[.int .i64 0, .int .u32 0, .int .u32 0, .int .u32 0, .int .u32 0]) (t := 48) ?hr ?_; (case hd => rfl); (case hg => rfl); (case hr => first | (go_simp; done) | (go_simp; rfl)); intro gb103 hg w4 hbox hb; have n0_ := Aside0.mk (below_step (by repeat (first | (with_reducible first | exact HB.out | apply below_alloc | apply pw_below_drewN | apply below_drew1) | exact HB.out)) hb); have n1_ := Aside0.mk (hbox); have n2_ := Aside0.mk ((by rw [hg]; exact (below_size (by repeat (first | (with_reducible first | exact HB.out | apply below_alloc | apply pw_below_drewN | apply below_drew1) | exact HB.out))) : w.heap.size ≤ gb103)); have n3_ := Aside0.mk ((by rw [hg]; exact (below_size (by repeat (first | (with_reducible first | exact HB.out | apply below_alloc | apply pw_below_drewN | apply below_drew1) | exact HB.out))) : w.heap.size ≤ gb103)); clear HB; have HB := n0_; have BK103 := n1_; have GW103 := n2_; have GE103 := n3_; clear n0_ n1_ n2_ n3_; clear hb hbox hg) | ((with_reducible refine gate_callee (f := 25) rfl ?_); refine goesL_ (some 7) rfl rfl Try.func25 (by kernel_rfl) rfl #[.int .i64 a0, .bool a1] rfl (by (try simp only [List.map_toArray, List.map_cons, List.map_nil]); first | done | rfl | (simp only [List.length_drop, List.length_take]; rfl)) ?_; (with_reducible refine (pte_Cause.calls a0 a1 t104 _ A3.out).mono ?_); rintro e w' ⟨rfl, ⟨nd, rfl⟩⟩; refine ⟨_, rfl, ?_⟩; (try (rw [drewN_self w4]; generalize hq_ : World.drewN w4 _ = w4; have n0_ : Aside0 (w4.heap[gb103]? = some (.cells #[.int .i64 0, .int .u32 0, .int .u32 0, .int .u32 0, .int .u32 0] 48 (0, 0))) := ⟨by rw [← hq_]; exact (by (with_reducible repeat (first | refine blk_drewN ?_ _ | refine blk_drew ?_ | refine blk_alloc ?_ _)); exact BK103.out)⟩; have n1_ : Aside0 (Below w.heap.size w w4) := ⟨by rw [← hq_]; exact (by repeat (first | (with_reducible first | exact HB.out | apply below_alloc | apply pw_below_drewN | apply below_drew1 | refine below_set ?_ GE103.out) | exact HB.out))⟩; clear BK103 HB hq_; have BK103 := n0_; have HB := n1_; clear n0_ n1_)); have hcz5_0 : w4.cell? ⟨gb103, 0, none⟩ = some (.int .i64 0) := (blk_cell BK103.out 0).trans rfl; have hcz5_1 : w4.cell? ⟨gb103, 1, none⟩ = some (.int .u32 0) := (blk_cell BK103.out 1).trans rfl; have hcz5_2 : w4.cell? ⟨gb103, 2, none⟩ = some (.int .u32 0) := (blk_cell BK103.out 2).trans rfl; have hcz5_3 : w4.cell? ⟨gb103, 3, none⟩ = some (.int .u32 0) := (blk_cell BK103.out 3).trans rfl; have hcz5_4 : w4.cell? ⟨gb103, 4, none⟩ = some (.int .u32 0) := (blk_cell BK103.out 4).trans rfl; have hfz5_0 := blk_frozen BK103.out 0; have hfz5_1 := blk_frozen BK103.out 1; have hfz5_2 := blk_frozen BK103.out 2; have hfz5_3 := blk_frozen BK103.out 3; have hfz5_4 := blk_frozen BK103.out 4))
  refine bodyPost_ret (results_cell_row rfl _ _ gb103 48 #[.int .i64 2, .int .u32 0, .int .u32 0, .int .u32 0, .int .u32 t104] (0, 0) _ rfl (by (with_reducible repeat (first | refine blk_drewN ?_ _ | refine blk_drew ?_ | refine blk_alloc ?_ _)); refine blk_put (cs := #[.int .i64 2, .int .u32 0, .int .u32 0, .int .u32 0, .int .u32 0]) ?_ 4 _ rfl; (with_reducible repeat (first | refine blk_drewN ?_ _ | refine blk_drew ?_ | refine blk_alloc ?_ _)); refine blk_put (cs := #[.int .i64 2, .int .u32 0, .int .u32 0, .int .u32 0, .int .u32 0]) ?_ 3 _ rfl; (with_reducible repeat (first | refine blk_drewN ?_ _ | refine blk_drew ?_ | refine blk_alloc ?_ _)); refine blk_put (cs := #[.int .i64 2, .int .u32 0, .int .u32 0, .int .u32 0, .int .u32 0]) ?_ 2 _ rfl; (with_reducible repeat (first | refine blk_drewN ?_ _ | refine blk_drew ?_ | refine blk_alloc ?_ _)); refine blk_put (cs := #[.int .i64 2, .int .u32 0, .int .u32 0, .int .u32 0, .int .u32 0]) ?_ 1 _ rfl; (with_reducible repeat (first | refine blk_drewN ?_ _ | refine blk_drew ?_ | refine blk_alloc ?_ _)); refine blk_put (cs := #[.int .i64 0, .int .u32 0, .int .u32 0, .int .u32 0, .int .u32 0]) ?_ 0 _ rfl; (with_reducible repeat (first | refine blk_drewN ?_ _ | refine blk_drew ?_ | refine blk_alloc ?_ _)); exact BK103.out) Try.underlying48 rfl (by kernel_rfl)) rfl ?_
  exact ⟨by first | rfl | (simp [errW_none, errW_some] <;> rfl) | (simp [*, errW_none, errW_some] <;> rfl), by repeat (first | (with_reducible first | exact HB.out | apply below_alloc | apply pw_below_drewN | apply below_drew1 | refine below_set ?_ GE103.out) | exact HB.out)⟩

/-! ### pte_Leaf: function 46 -/
def pte_Leaf.f (a0 : Int) : Option (Bool) := some ((Go.bits .and .u32 a0 10) != 0)
set_option maxHeartbeats 8000000 in
set_option maxRecDepth 100000 in
theorem pte_Leaf.calls (a0 : Int) (r : Bool) (w : World) (h : pte_Leaf.f a0 = some r) :
    Calls Try.prog 46 #[.int .u32 a0] w fun e w' => e = .returned (.bool r) ∧ Drawn0 w w' := by
  have H : (some ((Go.bits .and .u32 a0 10) != 0)) = some r := h
  clear h
  obtain rfl := Option.some.inj H
  go_enter Try.func46, Try.ntmps46
  go_wp2
  go_ret
  exact ⟨by first | rfl | (simp; done) | (simp [*]; done), by repeat (first | exact Drawn0.refl _ | apply Drawn0.step)⟩

/-! ### pte_Bad: function 45 -/
def pte_Bad.f (a0 : Int) : Option (Bool) := if (Go.bits .and .u32 a0 1) = 0 then (some true) else (if (Go.bits .and .u32 a0 4) = 0 then ((pte_Leaf.f a0).bind fun t105 => (if t105 = true then (some false) else (some ((Go.bits .and .u32 a0 208) != 0)))) else (if (Go.bits .and .u32 a0 2) = 0 then (some true) else ((pte_Leaf.f a0).bind fun t106 => (if t106 = true then (some false) else (some ((Go.bits .and .u32 a0 208) != 0))))))
set_option maxHeartbeats 8000000 in
set_option maxRecDepth 100000 in
theorem pte_Bad.calls (a0 : Int) (r : Bool) (w : World) (h : pte_Bad.f a0 = some r) :
    Calls Try.prog 45 #[.int .u32 a0] w fun e w' => e = .returned (.bool r) ∧ Drawn0 w w' := by
  have H : (if (Go.bits .and .u32 a0 1) = 0 then (some true) else (if (Go.bits .and .u32 a0 4) = 0 then ((pte_Leaf.f a0).bind fun t105 => (if t105 = true then (some false) else (some ((Go.bits .and .u32 a0 208) != 0)))) else (if (Go.bits .and .u32 a0 2) = 0 then (some true) else ((pte_Leaf.f a0).bind fun t106 => (if t106 = true then (some false) else (some ((Go.bits .and .u32 a0 208) != 0))))))) = some r := h
  clear h
  by_cases c2 : (Go.bits .and .u32 a0 1) = 0
  · rw [if_pos c2] at H
    have c2b0 : ((Go.bits .and .u32 a0 1) == 0) = true := beq_iff_eq.mpr c2
    have c2b1 : ((Go.bits .and .u32 a0 1) != 0) = false := bne_eq_false_iff_eq.mpr c2
    clear c2
    obtain rfl := Option.some.inj H
    go_enter Try.func45, Try.ntmps45
    go_wp2
    go_ret
    exact ⟨by first | rfl | (simp; done) | (simp [*]; done), by repeat (first | exact Drawn0.refl _ | apply Drawn0.step)⟩
  · rw [if_neg c2] at H
    have c2b0 : ((Go.bits .and .u32 a0 1) == 0) = false := beq_eq_false_iff_ne.mpr c2
    have c2b1 : ((Go.bits .and .u32 a0 1) != 0) = true := bne_iff_ne.mpr c2
    by_cases c3 : (Go.bits .and .u32 a0 4) = 0
    · rw [if_pos c3] at H
      have c3b0 : ((Go.bits .and .u32 a0 4) == 0) = true := beq_iff_eq.mpr c3
      have c3b1 : ((Go.bits .and .u32 a0 4) != 0) = false := bne_eq_false_iff_eq.mpr c3
      clear c3
      replace H := Option.bind_eq_some_iff.mp H
      obtain ⟨t105, A40, H⟩ := H
      replace H : (if t105 = true then (some false) else (some ((Go.bits .and .u32 a0 208) != 0))) = some r := H
      have A4 := Aside0.mk A40
      clear A40
      by_cases c5 : t105 = true
      · subst c5
        have H1 : (some false) = some r := by rw [if_pos rfl] at H; exact H
        clear H
        have H := H1
        clear H1
        obtain rfl := Option.some.inj H
        go_enter Try.func45, Try.ntmps45
        go_wp2_with (first | (go_at_call 46; (with_reducible refine (pte_Leaf.calls a0 true _ A4.out).mono ?_); rintro e w' ⟨rfl, ⟨nd, rfl⟩⟩))
        go_ret
        exact ⟨by first | rfl | (simp; done) | (simp [*]; done), by repeat (first | exact Drawn0.refl _ | apply Drawn0.step)⟩
      · replace c5 := Bool.eq_false_iff.mpr c5
        subst c5
        have H1 : (some ((Go.bits .and .u32 a0 208) != 0)) = some r := by rw [if_neg (show ¬ (false = true) by decide)] at H; exact H
        clear H
        have H := H1
        clear H1
        obtain rfl := Option.some.inj H
        go_enter Try.func45, Try.ntmps45
        go_wp2_with (first | (go_at_call 46; (with_reducible refine (pte_Leaf.calls a0 false _ A4.out).mono ?_); rintro e w' ⟨rfl, ⟨nd, rfl⟩⟩))
        go_ret
        exact ⟨by first | rfl | (simp; done) | (simp [*]; done), by repeat (first | exact Drawn0.refl _ | apply Drawn0.step)⟩
    · rw [if_neg c3] at H
      have c3b0 : ((Go.bits .and .u32 a0 4) == 0) = false := beq_eq_false_iff_ne.mpr c3
      have c3b1 : ((Go.bits .and .u32 a0 4) != 0) = true := bne_iff_ne.mpr c3
      by_cases c6 : (Go.bits .and .u32 a0 2) = 0
      · rw [if_pos c6] at H
        have c6b0 : ((Go.bits .and .u32 a0 2) == 0) = true := beq_iff_eq.mpr c6
        have c6b1 : ((Go.bits .and .u32 a0 2) != 0) = false := bne_eq_false_iff_eq.mpr c6
        clear c6
        obtain rfl := Option.some.inj H
        go_enter Try.func45, Try.ntmps45
        go_wp2
        go_ret
        exact ⟨by first | rfl | (simp; done) | (simp [*]; done), by repeat (first | exact Drawn0.refl _ | apply Drawn0.step)⟩
      · rw [if_neg c6] at H
        have c6b0 : ((Go.bits .and .u32 a0 2) == 0) = false := beq_eq_false_iff_ne.mpr c6
        have c6b1 : ((Go.bits .and .u32 a0 2) != 0) = true := bne_iff_ne.mpr c6
        replace H := Option.bind_eq_some_iff.mp H
        obtain ⟨t106, A70, H⟩ := H
        replace H : (if t106 = true then (some false) else (some ((Go.bits .and .u32 a0 208) != 0))) = some r := H
        have A7 := Aside0.mk A70
        clear A70
        by_cases c8 : t106 = true
        · subst c8
          have H1 : (some false) = some r := by rw [if_pos rfl] at H; exact H
          clear H
          have H := H1
          clear H1
          obtain rfl := Option.some.inj H
          go_enter Try.func45, Try.ntmps45
          go_wp2_with (first | (go_at_call 46; (with_reducible refine (pte_Leaf.calls a0 true _ A7.out).mono ?_); rintro e w' ⟨rfl, ⟨nd, rfl⟩⟩))
          go_ret
          exact ⟨by first | rfl | (simp; done) | (simp [*]; done), by repeat (first | exact Drawn0.refl _ | apply Drawn0.step)⟩
        · replace c8 := Bool.eq_false_iff.mpr c8
          subst c8
          have H1 : (some ((Go.bits .and .u32 a0 208) != 0)) = some r := by rw [if_neg (show ¬ (false = true) by decide)] at H; exact H
          clear H
          have H := H1
          clear H1
          obtain rfl := Option.some.inj H
          go_enter Try.func45, Try.ntmps45
          go_wp2_with (first | (go_at_call 46; (with_reducible refine (pte_Leaf.calls a0 false _ A7.out).mono ?_); rintro e w' ⟨rfl, ⟨nd, rfl⟩⟩))
          go_ret
          exact ⟨by first | rfl | (simp; done) | (simp [*]; done), by repeat (first | exact Drawn0.refl _ | apply Drawn0.step)⟩

/-! ### pte_Page: function 54 -/
def pte_Page.f (a0 : Int) : Option (Int) := some (a0 / 1024)
set_option maxHeartbeats 8000000 in
set_option maxRecDepth 100000 in
theorem pte_Page.calls (a0 : Int) (r : Int) (w : World) (h : pte_Page.f a0 = some r) :
    Calls Try.prog 54 #[.int .u32 a0] w fun e w' => e = .returned (.int .u32 r) ∧ Drawn0 w w' := by
  have H : (some (a0 / 1024)) = some r := h
  clear h
  obtain rfl := Option.some.inj H
  go_enter Try.func54, Try.ntmps54
  go_wp2
  go_ret
  exact ⟨by first | rfl | (simp; done) | (simp [*]; done), by repeat (first | exact Drawn0.refl _ | apply Drawn0.step)⟩

/-! ### pte_Needs: function 23 -/
def pte_Needs.f (a0 : Int) (a1 : Int) : Option (Int) := if a1 = 3 then (some (Go.bits .or .u32 (Go.bits .or .u32 a0 128) 64)) else (some (Go.bits .or .u32 a0 64))
set_option maxHeartbeats 8000000 in
set_option maxRecDepth 100000 in
theorem pte_Needs.calls (a0 : Int) (a1 : Int) (r : Int) (w : World) (h : pte_Needs.f a0 a1 = some r) :
    Calls Try.prog 23 #[.int .u32 a0, .int .i64 a1] w fun e w' => e = .returned (.int .u32 r) ∧ Drawn0 w w' := by
  have H : (if a1 = 3 then (some (Go.bits .or .u32 (Go.bits .or .u32 a0 128) 64)) else (some (Go.bits .or .u32 a0 64))) = some r := h
  clear h
  by_cases c3 : a1 = 3
  · rw [if_pos c3] at H
    have c3b0 : (a1 == 3) = true := beq_iff_eq.mpr c3
    have c3b1 : (a1 != 3) = false := bne_eq_false_iff_eq.mpr c3
    clear c3
    obtain rfl := Option.some.inj H
    go_enter Try.func23, Try.ntmps23
    go_wp2
    go_ret
    exact ⟨by first | rfl | (simp; done) | (simp [*]; done), by repeat (first | exact Drawn0.refl _ | apply Drawn0.step)⟩
  · rw [if_neg c3] at H
    have c3b0 : (a1 == 3) = false := beq_eq_false_iff_ne.mpr c3
    have c3b1 : (a1 != 3) = true := bne_iff_ne.mpr c3
    obtain rfl := Option.some.inj H
    go_enter Try.func23, Try.ntmps23
    go_wp2
    go_ret
    exact ⟨by first | rfl | (simp; done) | (simp [*]; done), by repeat (first | exact Drawn0.refl _ | apply Drawn0.step)⟩

/-! ### pte_May: function 24 -/
def pte_May.f (a0 : Int) (a1 : Int) (a2 : Int) : Option (Bool) := if a1 = 1 then ((pte_Bad.f a0).bind fun t107 => (if t107 = true then (some false) else ((pte_Leaf.f a0).bind fun t108 => (if t108 = true then (if (Go.bits .and .u32 a0 8) = 0 then (some false) else (if a2 = 0 then (if (Go.bits .and .u32 a0 16) = 0 then (if a2 = 3 then (some (!((Go.bits .and .u32 a0 16) != 0))) else (some false)) else (some true)) else (if a2 = 3 then (some (!((Go.bits .and .u32 a0 16) != 0))) else (some false)))) else (some false))))) else (if a1 = 2 then ((pte_Bad.f a0).bind fun t109 => (if t109 = true then (some false) else ((pte_Leaf.f a0).bind fun t110 => (if t110 = true then (if (Go.bits .and .u32 a0 2) = 0 then (some false) else (if a2 = 0 then (if (Go.bits .and .u32 a0 16) = 0 then (if a2 = 3 then (some (!((Go.bits .and .u32 a0 16) != 0))) else (some false)) else (some true)) else (if a2 = 3 then (some (!((Go.bits .and .u32 a0 16) != 0))) else (some false)))) else (some false))))) else (if a1 = 3 then ((pte_Bad.f a0).bind fun t111 => (if t111 = true then (some false) else ((pte_Leaf.f a0).bind fun t112 => (if t112 = true then (if (Go.bits .and .u32 a0 4) = 0 then (some false) else (if a2 = 0 then (if (Go.bits .and .u32 a0 16) = 0 then (if a2 = 3 then (some (!((Go.bits .and .u32 a0 16) != 0))) else (some false)) else (some true)) else (if a2 = 3 then (some (!((Go.bits .and .u32 a0 16) != 0))) else (some false)))) else (some false))))) else (some false)))
set_option maxHeartbeats 8000000 in
set_option maxRecDepth 100000 in
theorem pte_May.calls (a0 : Int) (a1 : Int) (a2 : Int) (r : Bool) (w : World) (h : pte_May.f a0 a1 a2 = some r) :
    Calls Try.prog 24 #[.int .u32 a0, .int .i64 a1, .int .i64 a2] w fun e w' => e = .returned (.bool r) ∧ Drawn0 w w' := by
  have H : (if a1 = 1 then ((pte_Bad.f a0).bind fun t107 => (if t107 = true then (some false) else ((pte_Leaf.f a0).bind fun t108 => (if t108 = true then (if (Go.bits .and .u32 a0 8) = 0 then (some false) else (if a2 = 0 then (if (Go.bits .and .u32 a0 16) = 0 then (if a2 = 3 then (some (!((Go.bits .and .u32 a0 16) != 0))) else (some false)) else (some true)) else (if a2 = 3 then (some (!((Go.bits .and .u32 a0 16) != 0))) else (some false)))) else (some false))))) else (if a1 = 2 then ((pte_Bad.f a0).bind fun t109 => (if t109 = true then (some false) else ((pte_Leaf.f a0).bind fun t110 => (if t110 = true then (if (Go.bits .and .u32 a0 2) = 0 then (some false) else (if a2 = 0 then (if (Go.bits .and .u32 a0 16) = 0 then (if a2 = 3 then (some (!((Go.bits .and .u32 a0 16) != 0))) else (some false)) else (some true)) else (if a2 = 3 then (some (!((Go.bits .and .u32 a0 16) != 0))) else (some false)))) else (some false))))) else (if a1 = 3 then ((pte_Bad.f a0).bind fun t111 => (if t111 = true then (some false) else ((pte_Leaf.f a0).bind fun t112 => (if t112 = true then (if (Go.bits .and .u32 a0 4) = 0 then (some false) else (if a2 = 0 then (if (Go.bits .and .u32 a0 16) = 0 then (if a2 = 3 then (some (!((Go.bits .and .u32 a0 16) != 0))) else (some false)) else (some true)) else (if a2 = 3 then (some (!((Go.bits .and .u32 a0 16) != 0))) else (some false)))) else (some false))))) else (some false)))) = some r := h
  clear h
  by_cases c4 : a1 = 1
  · rw [if_pos c4] at H
    have c4b0 : (a1 == 1) = true := beq_iff_eq.mpr c4
    have c4b1 : (a1 != 1) = false := bne_eq_false_iff_eq.mpr c4
    clear c4
    replace H := Option.bind_eq_some_iff.mp H
    obtain ⟨t107, A50, H⟩ := H
    replace H : (if t107 = true then (some false) else ((pte_Leaf.f a0).bind fun t108 => (if t108 = true then (if (Go.bits .and .u32 a0 8) = 0 then (some false) else (if a2 = 0 then (if (Go.bits .and .u32 a0 16) = 0 then (if a2 = 3 then (some (!((Go.bits .and .u32 a0 16) != 0))) else (some false)) else (some true)) else (if a2 = 3 then (some (!((Go.bits .and .u32 a0 16) != 0))) else (some false)))) else (some false)))) = some r := H
    have A5 := Aside0.mk A50
    clear A50
    by_cases c6 : t107 = true
    · subst c6
      have H1 : (some false) = some r := by rw [if_pos rfl] at H; exact H
      clear H
      have H := H1
      clear H1
      obtain rfl := Option.some.inj H
      go_enter Try.func24, Try.ntmps24
      go_wp2_with (first | (go_at_call 45; (with_reducible refine (pte_Bad.calls a0 true _ A5.out).mono ?_); rintro e w' ⟨rfl, ⟨nd, rfl⟩⟩))
      go_ret
      exact ⟨by first | rfl | (simp; done) | (simp [*]; done), by repeat (first | exact Drawn0.refl _ | apply Drawn0.step)⟩
    · replace c6 := Bool.eq_false_iff.mpr c6
      subst c6
      have H1 : ((pte_Leaf.f a0).bind fun t108 => (if t108 = true then (if (Go.bits .and .u32 a0 8) = 0 then (some false) else (if a2 = 0 then (if (Go.bits .and .u32 a0 16) = 0 then (if a2 = 3 then (some (!((Go.bits .and .u32 a0 16) != 0))) else (some false)) else (some true)) else (if a2 = 3 then (some (!((Go.bits .and .u32 a0 16) != 0))) else (some false)))) else (some false))) = some r := by rw [if_neg (show ¬ (false = true) by decide)] at H; exact H
      clear H
      have H := H1
      clear H1
      replace H := Option.bind_eq_some_iff.mp H
      obtain ⟨t108, A70, H⟩ := H
      replace H : (if t108 = true then (if (Go.bits .and .u32 a0 8) = 0 then (some false) else (if a2 = 0 then (if (Go.bits .and .u32 a0 16) = 0 then (if a2 = 3 then (some (!((Go.bits .and .u32 a0 16) != 0))) else (some false)) else (some true)) else (if a2 = 3 then (some (!((Go.bits .and .u32 a0 16) != 0))) else (some false)))) else (some false)) = some r := H
      have A7 := Aside0.mk A70
      clear A70
      by_cases c8 : t108 = true
      · subst c8
        have H1 : (if (Go.bits .and .u32 a0 8) = 0 then (some false) else (if a2 = 0 then (if (Go.bits .and .u32 a0 16) = 0 then (if a2 = 3 then (some (!((Go.bits .and .u32 a0 16) != 0))) else (some false)) else (some true)) else (if a2 = 3 then (some (!((Go.bits .and .u32 a0 16) != 0))) else (some false)))) = some r := by rw [if_pos rfl] at H; exact H
        clear H
        have H := H1
        clear H1
        by_cases c9 : (Go.bits .and .u32 a0 8) = 0
        · rw [if_pos c9] at H
          have c9b0 : ((Go.bits .and .u32 a0 8) == 0) = true := beq_iff_eq.mpr c9
          have c9b1 : ((Go.bits .and .u32 a0 8) != 0) = false := bne_eq_false_iff_eq.mpr c9
          clear c9
          obtain rfl := Option.some.inj H
          go_enter Try.func24, Try.ntmps24
          go_wp2_with (first | (go_at_call 45; (with_reducible refine (pte_Bad.calls a0 false _ A5.out).mono ?_); rintro e w' ⟨rfl, ⟨nd, rfl⟩⟩) | (go_at_call 46; (with_reducible refine (pte_Leaf.calls a0 true _ A7.out).mono ?_); rintro e w' ⟨rfl, ⟨nd, rfl⟩⟩))
          go_ret
          exact ⟨by first | rfl | (simp; done) | (simp [*]; done), by repeat (first | exact Drawn0.refl _ | apply Drawn0.step)⟩
        · rw [if_neg c9] at H
          have c9b0 : ((Go.bits .and .u32 a0 8) == 0) = false := beq_eq_false_iff_ne.mpr c9
          have c9b1 : ((Go.bits .and .u32 a0 8) != 0) = true := bne_iff_ne.mpr c9
          by_cases c10 : a2 = 0
          · rw [if_pos c10] at H
            have c10b0 : (a2 == 0) = true := beq_iff_eq.mpr c10
            have c10b1 : (a2 != 0) = false := bne_eq_false_iff_eq.mpr c10
            clear c10
            by_cases c11 : (Go.bits .and .u32 a0 16) = 0
            · rw [if_pos c11] at H
              have c11b0 : ((Go.bits .and .u32 a0 16) == 0) = true := beq_iff_eq.mpr c11
              have c11b1 : ((Go.bits .and .u32 a0 16) != 0) = false := bne_eq_false_iff_eq.mpr c11
              clear c11
              by_cases c12 : a2 = 3
              · rw [if_pos c12] at H
                have c12b0 : (a2 == 3) = true := beq_iff_eq.mpr c12
                have c12b1 : (a2 != 3) = false := bne_eq_false_iff_eq.mpr c12
                clear c12
                obtain rfl := Option.some.inj H
                go_enter Try.func24, Try.ntmps24
                go_wp2_with (first | (go_at_call 45; (with_reducible refine (pte_Bad.calls a0 false _ A5.out).mono ?_); rintro e w' ⟨rfl, ⟨nd, rfl⟩⟩) | (go_at_call 46; (with_reducible refine (pte_Leaf.calls a0 true _ A7.out).mono ?_); rintro e w' ⟨rfl, ⟨nd, rfl⟩⟩))
                go_ret
                exact ⟨by first | rfl | (simp; done) | (simp [*]; done), by repeat (first | exact Drawn0.refl _ | apply Drawn0.step)⟩
              · rw [if_neg c12] at H
                have c12b0 : (a2 == 3) = false := beq_eq_false_iff_ne.mpr c12
                have c12b1 : (a2 != 3) = true := bne_iff_ne.mpr c12
                obtain rfl := Option.some.inj H
                go_enter Try.func24, Try.ntmps24
                go_wp2_with (first | (go_at_call 45; (with_reducible refine (pte_Bad.calls a0 false _ A5.out).mono ?_); rintro e w' ⟨rfl, ⟨nd, rfl⟩⟩) | (go_at_call 46; (with_reducible refine (pte_Leaf.calls a0 true _ A7.out).mono ?_); rintro e w' ⟨rfl, ⟨nd, rfl⟩⟩))
                go_ret
                exact ⟨by first | rfl | (simp; done) | (simp [*]; done), by repeat (first | exact Drawn0.refl _ | apply Drawn0.step)⟩
            · rw [if_neg c11] at H
              have c11b0 : ((Go.bits .and .u32 a0 16) == 0) = false := beq_eq_false_iff_ne.mpr c11
              have c11b1 : ((Go.bits .and .u32 a0 16) != 0) = true := bne_iff_ne.mpr c11
              obtain rfl := Option.some.inj H
              go_enter Try.func24, Try.ntmps24
              go_wp2_with (first | (go_at_call 45; (with_reducible refine (pte_Bad.calls a0 false _ A5.out).mono ?_); rintro e w' ⟨rfl, ⟨nd, rfl⟩⟩) | (go_at_call 46; (with_reducible refine (pte_Leaf.calls a0 true _ A7.out).mono ?_); rintro e w' ⟨rfl, ⟨nd, rfl⟩⟩))
              go_ret
              exact ⟨by first | rfl | (simp; done) | (simp [*]; done), by repeat (first | exact Drawn0.refl _ | apply Drawn0.step)⟩
          · rw [if_neg c10] at H
            have c10b0 : (a2 == 0) = false := beq_eq_false_iff_ne.mpr c10
            have c10b1 : (a2 != 0) = true := bne_iff_ne.mpr c10
            by_cases c13 : a2 = 3
            · rw [if_pos c13] at H
              have c13b0 : (a2 == 3) = true := beq_iff_eq.mpr c13
              have c13b1 : (a2 != 3) = false := bne_eq_false_iff_eq.mpr c13
              clear c13
              obtain rfl := Option.some.inj H
              go_enter Try.func24, Try.ntmps24
              go_wp2_with (first | (go_at_call 45; (with_reducible refine (pte_Bad.calls a0 false _ A5.out).mono ?_); rintro e w' ⟨rfl, ⟨nd, rfl⟩⟩) | (go_at_call 46; (with_reducible refine (pte_Leaf.calls a0 true _ A7.out).mono ?_); rintro e w' ⟨rfl, ⟨nd, rfl⟩⟩))
              go_ret
              exact ⟨by first | rfl | (simp; done) | (simp [*]; done), by repeat (first | exact Drawn0.refl _ | apply Drawn0.step)⟩
            · rw [if_neg c13] at H
              have c13b0 : (a2 == 3) = false := beq_eq_false_iff_ne.mpr c13
              have c13b1 : (a2 != 3) = true := bne_iff_ne.mpr c13
              obtain rfl := Option.some.inj H
              go_enter Try.func24, Try.ntmps24
              go_wp2_with (first | (go_at_call 45; (with_reducible refine (pte_Bad.calls a0 false _ A5.out).mono ?_); rintro e w' ⟨rfl, ⟨nd, rfl⟩⟩) | (go_at_call 46; (with_reducible refine (pte_Leaf.calls a0 true _ A7.out).mono ?_); rintro e w' ⟨rfl, ⟨nd, rfl⟩⟩))
              go_ret
              exact ⟨by first | rfl | (simp; done) | (simp [*]; done), by repeat (first | exact Drawn0.refl _ | apply Drawn0.step)⟩
      · replace c8 := Bool.eq_false_iff.mpr c8
        subst c8
        have H1 : (some false) = some r := by rw [if_neg (show ¬ (false = true) by decide)] at H; exact H
        clear H
        have H := H1
        clear H1
        obtain rfl := Option.some.inj H
        go_enter Try.func24, Try.ntmps24
        go_wp2_with (first | (go_at_call 45; (with_reducible refine (pte_Bad.calls a0 false _ A5.out).mono ?_); rintro e w' ⟨rfl, ⟨nd, rfl⟩⟩) | (go_at_call 46; (with_reducible refine (pte_Leaf.calls a0 false _ A7.out).mono ?_); rintro e w' ⟨rfl, ⟨nd, rfl⟩⟩))
        go_ret
        exact ⟨by first | rfl | (simp; done) | (simp [*]; done), by repeat (first | exact Drawn0.refl _ | apply Drawn0.step)⟩
  · rw [if_neg c4] at H
    have c4b0 : (a1 == 1) = false := beq_eq_false_iff_ne.mpr c4
    have c4b1 : (a1 != 1) = true := bne_iff_ne.mpr c4
    by_cases c14 : a1 = 2
    · rw [if_pos c14] at H
      have c14b0 : (a1 == 2) = true := beq_iff_eq.mpr c14
      have c14b1 : (a1 != 2) = false := bne_eq_false_iff_eq.mpr c14
      clear c14
      replace H := Option.bind_eq_some_iff.mp H
      obtain ⟨t109, A150, H⟩ := H
      replace H : (if t109 = true then (some false) else ((pte_Leaf.f a0).bind fun t110 => (if t110 = true then (if (Go.bits .and .u32 a0 2) = 0 then (some false) else (if a2 = 0 then (if (Go.bits .and .u32 a0 16) = 0 then (if a2 = 3 then (some (!((Go.bits .and .u32 a0 16) != 0))) else (some false)) else (some true)) else (if a2 = 3 then (some (!((Go.bits .and .u32 a0 16) != 0))) else (some false)))) else (some false)))) = some r := H
      have A15 := Aside0.mk A150
      clear A150
      by_cases c16 : t109 = true
      · subst c16
        have H1 : (some false) = some r := by rw [if_pos rfl] at H; exact H
        clear H
        have H := H1
        clear H1
        obtain rfl := Option.some.inj H
        go_enter Try.func24, Try.ntmps24
        go_wp2_with (first | (go_at_call 45; (with_reducible refine (pte_Bad.calls a0 true _ A15.out).mono ?_); rintro e w' ⟨rfl, ⟨nd, rfl⟩⟩))
        go_ret
        exact ⟨by first | rfl | (simp; done) | (simp [*]; done), by repeat (first | exact Drawn0.refl _ | apply Drawn0.step)⟩
      · replace c16 := Bool.eq_false_iff.mpr c16
        subst c16
        have H1 : ((pte_Leaf.f a0).bind fun t110 => (if t110 = true then (if (Go.bits .and .u32 a0 2) = 0 then (some false) else (if a2 = 0 then (if (Go.bits .and .u32 a0 16) = 0 then (if a2 = 3 then (some (!((Go.bits .and .u32 a0 16) != 0))) else (some false)) else (some true)) else (if a2 = 3 then (some (!((Go.bits .and .u32 a0 16) != 0))) else (some false)))) else (some false))) = some r := by rw [if_neg (show ¬ (false = true) by decide)] at H; exact H
        clear H
        have H := H1
        clear H1
        replace H := Option.bind_eq_some_iff.mp H
        obtain ⟨t110, A170, H⟩ := H
        replace H : (if t110 = true then (if (Go.bits .and .u32 a0 2) = 0 then (some false) else (if a2 = 0 then (if (Go.bits .and .u32 a0 16) = 0 then (if a2 = 3 then (some (!((Go.bits .and .u32 a0 16) != 0))) else (some false)) else (some true)) else (if a2 = 3 then (some (!((Go.bits .and .u32 a0 16) != 0))) else (some false)))) else (some false)) = some r := H
        have A17 := Aside0.mk A170
        clear A170
        by_cases c18 : t110 = true
        · subst c18
          have H1 : (if (Go.bits .and .u32 a0 2) = 0 then (some false) else (if a2 = 0 then (if (Go.bits .and .u32 a0 16) = 0 then (if a2 = 3 then (some (!((Go.bits .and .u32 a0 16) != 0))) else (some false)) else (some true)) else (if a2 = 3 then (some (!((Go.bits .and .u32 a0 16) != 0))) else (some false)))) = some r := by rw [if_pos rfl] at H; exact H
          clear H
          have H := H1
          clear H1
          by_cases c19 : (Go.bits .and .u32 a0 2) = 0
          · rw [if_pos c19] at H
            have c19b0 : ((Go.bits .and .u32 a0 2) == 0) = true := beq_iff_eq.mpr c19
            have c19b1 : ((Go.bits .and .u32 a0 2) != 0) = false := bne_eq_false_iff_eq.mpr c19
            clear c19
            obtain rfl := Option.some.inj H
            go_enter Try.func24, Try.ntmps24
            go_wp2_with (first | (go_at_call 45; (with_reducible refine (pte_Bad.calls a0 false _ A15.out).mono ?_); rintro e w' ⟨rfl, ⟨nd, rfl⟩⟩) | (go_at_call 46; (with_reducible refine (pte_Leaf.calls a0 true _ A17.out).mono ?_); rintro e w' ⟨rfl, ⟨nd, rfl⟩⟩))
            go_ret
            exact ⟨by first | rfl | (simp; done) | (simp [*]; done), by repeat (first | exact Drawn0.refl _ | apply Drawn0.step)⟩
          · rw [if_neg c19] at H
            have c19b0 : ((Go.bits .and .u32 a0 2) == 0) = false := beq_eq_false_iff_ne.mpr c19
            have c19b1 : ((Go.bits .and .u32 a0 2) != 0) = true := bne_iff_ne.mpr c19
            by_cases c20 : a2 = 0
            · rw [if_pos c20] at H
              have c20b0 : (a2 == 0) = true := beq_iff_eq.mpr c20
              have c20b1 : (a2 != 0) = false := bne_eq_false_iff_eq.mpr c20
              clear c20
              by_cases c21 : (Go.bits .and .u32 a0 16) = 0
              · rw [if_pos c21] at H
                have c21b0 : ((Go.bits .and .u32 a0 16) == 0) = true := beq_iff_eq.mpr c21
                have c21b1 : ((Go.bits .and .u32 a0 16) != 0) = false := bne_eq_false_iff_eq.mpr c21
                clear c21
                by_cases c22 : a2 = 3
                · rw [if_pos c22] at H
                  have c22b0 : (a2 == 3) = true := beq_iff_eq.mpr c22
                  have c22b1 : (a2 != 3) = false := bne_eq_false_iff_eq.mpr c22
                  clear c22
                  obtain rfl := Option.some.inj H
                  go_enter Try.func24, Try.ntmps24
                  go_wp2_with (first | (go_at_call 45; (with_reducible refine (pte_Bad.calls a0 false _ A15.out).mono ?_); rintro e w' ⟨rfl, ⟨nd, rfl⟩⟩) | (go_at_call 46; (with_reducible refine (pte_Leaf.calls a0 true _ A17.out).mono ?_); rintro e w' ⟨rfl, ⟨nd, rfl⟩⟩))
                  go_ret
                  exact ⟨by first | rfl | (simp; done) | (simp [*]; done), by repeat (first | exact Drawn0.refl _ | apply Drawn0.step)⟩
                · rw [if_neg c22] at H
                  have c22b0 : (a2 == 3) = false := beq_eq_false_iff_ne.mpr c22
                  have c22b1 : (a2 != 3) = true := bne_iff_ne.mpr c22
                  obtain rfl := Option.some.inj H
                  go_enter Try.func24, Try.ntmps24
                  go_wp2_with (first | (go_at_call 45; (with_reducible refine (pte_Bad.calls a0 false _ A15.out).mono ?_); rintro e w' ⟨rfl, ⟨nd, rfl⟩⟩) | (go_at_call 46; (with_reducible refine (pte_Leaf.calls a0 true _ A17.out).mono ?_); rintro e w' ⟨rfl, ⟨nd, rfl⟩⟩))
                  go_ret
                  exact ⟨by first | rfl | (simp; done) | (simp [*]; done), by repeat (first | exact Drawn0.refl _ | apply Drawn0.step)⟩
              · rw [if_neg c21] at H
                have c21b0 : ((Go.bits .and .u32 a0 16) == 0) = false := beq_eq_false_iff_ne.mpr c21
                have c21b1 : ((Go.bits .and .u32 a0 16) != 0) = true := bne_iff_ne.mpr c21
                obtain rfl := Option.some.inj H
                go_enter Try.func24, Try.ntmps24
                go_wp2_with (first | (go_at_call 45; (with_reducible refine (pte_Bad.calls a0 false _ A15.out).mono ?_); rintro e w' ⟨rfl, ⟨nd, rfl⟩⟩) | (go_at_call 46; (with_reducible refine (pte_Leaf.calls a0 true _ A17.out).mono ?_); rintro e w' ⟨rfl, ⟨nd, rfl⟩⟩))
                go_ret
                exact ⟨by first | rfl | (simp; done) | (simp [*]; done), by repeat (first | exact Drawn0.refl _ | apply Drawn0.step)⟩
            · rw [if_neg c20] at H
              have c20b0 : (a2 == 0) = false := beq_eq_false_iff_ne.mpr c20
              have c20b1 : (a2 != 0) = true := bne_iff_ne.mpr c20
              by_cases c23 : a2 = 3
              · rw [if_pos c23] at H
                have c23b0 : (a2 == 3) = true := beq_iff_eq.mpr c23
                have c23b1 : (a2 != 3) = false := bne_eq_false_iff_eq.mpr c23
                clear c23
                obtain rfl := Option.some.inj H
                go_enter Try.func24, Try.ntmps24
                go_wp2_with (first | (go_at_call 45; (with_reducible refine (pte_Bad.calls a0 false _ A15.out).mono ?_); rintro e w' ⟨rfl, ⟨nd, rfl⟩⟩) | (go_at_call 46; (with_reducible refine (pte_Leaf.calls a0 true _ A17.out).mono ?_); rintro e w' ⟨rfl, ⟨nd, rfl⟩⟩))
                go_ret
                exact ⟨by first | rfl | (simp; done) | (simp [*]; done), by repeat (first | exact Drawn0.refl _ | apply Drawn0.step)⟩
              · rw [if_neg c23] at H
                have c23b0 : (a2 == 3) = false := beq_eq_false_iff_ne.mpr c23
                have c23b1 : (a2 != 3) = true := bne_iff_ne.mpr c23
                obtain rfl := Option.some.inj H
                go_enter Try.func24, Try.ntmps24
                go_wp2_with (first | (go_at_call 45; (with_reducible refine (pte_Bad.calls a0 false _ A15.out).mono ?_); rintro e w' ⟨rfl, ⟨nd, rfl⟩⟩) | (go_at_call 46; (with_reducible refine (pte_Leaf.calls a0 true _ A17.out).mono ?_); rintro e w' ⟨rfl, ⟨nd, rfl⟩⟩))
                go_ret
                exact ⟨by first | rfl | (simp; done) | (simp [*]; done), by repeat (first | exact Drawn0.refl _ | apply Drawn0.step)⟩
        · replace c18 := Bool.eq_false_iff.mpr c18
          subst c18
          have H1 : (some false) = some r := by rw [if_neg (show ¬ (false = true) by decide)] at H; exact H
          clear H
          have H := H1
          clear H1
          obtain rfl := Option.some.inj H
          go_enter Try.func24, Try.ntmps24
          go_wp2_with (first | (go_at_call 45; (with_reducible refine (pte_Bad.calls a0 false _ A15.out).mono ?_); rintro e w' ⟨rfl, ⟨nd, rfl⟩⟩) | (go_at_call 46; (with_reducible refine (pte_Leaf.calls a0 false _ A17.out).mono ?_); rintro e w' ⟨rfl, ⟨nd, rfl⟩⟩))
          go_ret
          exact ⟨by first | rfl | (simp; done) | (simp [*]; done), by repeat (first | exact Drawn0.refl _ | apply Drawn0.step)⟩
    · rw [if_neg c14] at H
      have c14b0 : (a1 == 2) = false := beq_eq_false_iff_ne.mpr c14
      have c14b1 : (a1 != 2) = true := bne_iff_ne.mpr c14
      by_cases c24 : a1 = 3
      · rw [if_pos c24] at H
        have c24b0 : (a1 == 3) = true := beq_iff_eq.mpr c24
        have c24b1 : (a1 != 3) = false := bne_eq_false_iff_eq.mpr c24
        clear c24
        replace H := Option.bind_eq_some_iff.mp H
        obtain ⟨t111, A250, H⟩ := H
        replace H : (if t111 = true then (some false) else ((pte_Leaf.f a0).bind fun t112 => (if t112 = true then (if (Go.bits .and .u32 a0 4) = 0 then (some false) else (if a2 = 0 then (if (Go.bits .and .u32 a0 16) = 0 then (if a2 = 3 then (some (!((Go.bits .and .u32 a0 16) != 0))) else (some false)) else (some true)) else (if a2 = 3 then (some (!((Go.bits .and .u32 a0 16) != 0))) else (some false)))) else (some false)))) = some r := H
        have A25 := Aside0.mk A250
        clear A250
        by_cases c26 : t111 = true
        · subst c26
          have H1 : (some false) = some r := by rw [if_pos rfl] at H; exact H
          clear H
          have H := H1
          clear H1
          obtain rfl := Option.some.inj H
          go_enter Try.func24, Try.ntmps24
          go_wp2_with (first | (go_at_call 45; (with_reducible refine (pte_Bad.calls a0 true _ A25.out).mono ?_); rintro e w' ⟨rfl, ⟨nd, rfl⟩⟩))
          go_ret
          exact ⟨by first | rfl | (simp; done) | (simp [*]; done), by repeat (first | exact Drawn0.refl _ | apply Drawn0.step)⟩
        · replace c26 := Bool.eq_false_iff.mpr c26
          subst c26
          have H1 : ((pte_Leaf.f a0).bind fun t112 => (if t112 = true then (if (Go.bits .and .u32 a0 4) = 0 then (some false) else (if a2 = 0 then (if (Go.bits .and .u32 a0 16) = 0 then (if a2 = 3 then (some (!((Go.bits .and .u32 a0 16) != 0))) else (some false)) else (some true)) else (if a2 = 3 then (some (!((Go.bits .and .u32 a0 16) != 0))) else (some false)))) else (some false))) = some r := by rw [if_neg (show ¬ (false = true) by decide)] at H; exact H
          clear H
          have H := H1
          clear H1
          replace H := Option.bind_eq_some_iff.mp H
          obtain ⟨t112, A270, H⟩ := H
          replace H : (if t112 = true then (if (Go.bits .and .u32 a0 4) = 0 then (some false) else (if a2 = 0 then (if (Go.bits .and .u32 a0 16) = 0 then (if a2 = 3 then (some (!((Go.bits .and .u32 a0 16) != 0))) else (some false)) else (some true)) else (if a2 = 3 then (some (!((Go.bits .and .u32 a0 16) != 0))) else (some false)))) else (some false)) = some r := H
          have A27 := Aside0.mk A270
          clear A270
          by_cases c28 : t112 = true
          · subst c28
            have H1 : (if (Go.bits .and .u32 a0 4) = 0 then (some false) else (if a2 = 0 then (if (Go.bits .and .u32 a0 16) = 0 then (if a2 = 3 then (some (!((Go.bits .and .u32 a0 16) != 0))) else (some false)) else (some true)) else (if a2 = 3 then (some (!((Go.bits .and .u32 a0 16) != 0))) else (some false)))) = some r := by rw [if_pos rfl] at H; exact H
            clear H
            have H := H1
            clear H1
            by_cases c29 : (Go.bits .and .u32 a0 4) = 0
            · rw [if_pos c29] at H
              have c29b0 : ((Go.bits .and .u32 a0 4) == 0) = true := beq_iff_eq.mpr c29
              have c29b1 : ((Go.bits .and .u32 a0 4) != 0) = false := bne_eq_false_iff_eq.mpr c29
              clear c29
              obtain rfl := Option.some.inj H
              go_enter Try.func24, Try.ntmps24
              go_wp2_with (first | (go_at_call 45; (with_reducible refine (pte_Bad.calls a0 false _ A25.out).mono ?_); rintro e w' ⟨rfl, ⟨nd, rfl⟩⟩) | (go_at_call 46; (with_reducible refine (pte_Leaf.calls a0 true _ A27.out).mono ?_); rintro e w' ⟨rfl, ⟨nd, rfl⟩⟩))
              go_ret
              exact ⟨by first | rfl | (simp; done) | (simp [*]; done), by repeat (first | exact Drawn0.refl _ | apply Drawn0.step)⟩
            · rw [if_neg c29] at H
              have c29b0 : ((Go.bits .and .u32 a0 4) == 0) = false := beq_eq_false_iff_ne.mpr c29
              have c29b1 : ((Go.bits .and .u32 a0 4) != 0) = true := bne_iff_ne.mpr c29
              by_cases c30 : a2 = 0
              · rw [if_pos c30] at H
                have c30b0 : (a2 == 0) = true := beq_iff_eq.mpr c30
                have c30b1 : (a2 != 0) = false := bne_eq_false_iff_eq.mpr c30
                clear c30
                by_cases c31 : (Go.bits .and .u32 a0 16) = 0
                · rw [if_pos c31] at H
                  have c31b0 : ((Go.bits .and .u32 a0 16) == 0) = true := beq_iff_eq.mpr c31
                  have c31b1 : ((Go.bits .and .u32 a0 16) != 0) = false := bne_eq_false_iff_eq.mpr c31
                  clear c31
                  by_cases c32 : a2 = 3
                  · rw [if_pos c32] at H
                    have c32b0 : (a2 == 3) = true := beq_iff_eq.mpr c32
                    have c32b1 : (a2 != 3) = false := bne_eq_false_iff_eq.mpr c32
                    clear c32
                    obtain rfl := Option.some.inj H
                    go_enter Try.func24, Try.ntmps24
                    go_wp2_with (first | (go_at_call 45; (with_reducible refine (pte_Bad.calls a0 false _ A25.out).mono ?_); rintro e w' ⟨rfl, ⟨nd, rfl⟩⟩) | (go_at_call 46; (with_reducible refine (pte_Leaf.calls a0 true _ A27.out).mono ?_); rintro e w' ⟨rfl, ⟨nd, rfl⟩⟩))
                    go_ret
                    exact ⟨by first | rfl | (simp; done) | (simp [*]; done), by repeat (first | exact Drawn0.refl _ | apply Drawn0.step)⟩
                  · rw [if_neg c32] at H
                    have c32b0 : (a2 == 3) = false := beq_eq_false_iff_ne.mpr c32
                    have c32b1 : (a2 != 3) = true := bne_iff_ne.mpr c32
                    obtain rfl := Option.some.inj H
                    go_enter Try.func24, Try.ntmps24
                    go_wp2_with (first | (go_at_call 45; (with_reducible refine (pte_Bad.calls a0 false _ A25.out).mono ?_); rintro e w' ⟨rfl, ⟨nd, rfl⟩⟩) | (go_at_call 46; (with_reducible refine (pte_Leaf.calls a0 true _ A27.out).mono ?_); rintro e w' ⟨rfl, ⟨nd, rfl⟩⟩))
                    go_ret
                    exact ⟨by first | rfl | (simp; done) | (simp [*]; done), by repeat (first | exact Drawn0.refl _ | apply Drawn0.step)⟩
                · rw [if_neg c31] at H
                  have c31b0 : ((Go.bits .and .u32 a0 16) == 0) = false := beq_eq_false_iff_ne.mpr c31
                  have c31b1 : ((Go.bits .and .u32 a0 16) != 0) = true := bne_iff_ne.mpr c31
                  obtain rfl := Option.some.inj H
                  go_enter Try.func24, Try.ntmps24
                  go_wp2_with (first | (go_at_call 45; (with_reducible refine (pte_Bad.calls a0 false _ A25.out).mono ?_); rintro e w' ⟨rfl, ⟨nd, rfl⟩⟩) | (go_at_call 46; (with_reducible refine (pte_Leaf.calls a0 true _ A27.out).mono ?_); rintro e w' ⟨rfl, ⟨nd, rfl⟩⟩))
                  go_ret
                  exact ⟨by first | rfl | (simp; done) | (simp [*]; done), by repeat (first | exact Drawn0.refl _ | apply Drawn0.step)⟩
              · rw [if_neg c30] at H
                have c30b0 : (a2 == 0) = false := beq_eq_false_iff_ne.mpr c30
                have c30b1 : (a2 != 0) = true := bne_iff_ne.mpr c30
                by_cases c33 : a2 = 3
                · rw [if_pos c33] at H
                  have c33b0 : (a2 == 3) = true := beq_iff_eq.mpr c33
                  have c33b1 : (a2 != 3) = false := bne_eq_false_iff_eq.mpr c33
                  clear c33
                  obtain rfl := Option.some.inj H
                  go_enter Try.func24, Try.ntmps24
                  go_wp2_with (first | (go_at_call 45; (with_reducible refine (pte_Bad.calls a0 false _ A25.out).mono ?_); rintro e w' ⟨rfl, ⟨nd, rfl⟩⟩) | (go_at_call 46; (with_reducible refine (pte_Leaf.calls a0 true _ A27.out).mono ?_); rintro e w' ⟨rfl, ⟨nd, rfl⟩⟩))
                  go_ret
                  exact ⟨by first | rfl | (simp; done) | (simp [*]; done), by repeat (first | exact Drawn0.refl _ | apply Drawn0.step)⟩
                · rw [if_neg c33] at H
                  have c33b0 : (a2 == 3) = false := beq_eq_false_iff_ne.mpr c33
                  have c33b1 : (a2 != 3) = true := bne_iff_ne.mpr c33
                  obtain rfl := Option.some.inj H
                  go_enter Try.func24, Try.ntmps24
                  go_wp2_with (first | (go_at_call 45; (with_reducible refine (pte_Bad.calls a0 false _ A25.out).mono ?_); rintro e w' ⟨rfl, ⟨nd, rfl⟩⟩) | (go_at_call 46; (with_reducible refine (pte_Leaf.calls a0 true _ A27.out).mono ?_); rintro e w' ⟨rfl, ⟨nd, rfl⟩⟩))
                  go_ret
                  exact ⟨by first | rfl | (simp; done) | (simp [*]; done), by repeat (first | exact Drawn0.refl _ | apply Drawn0.step)⟩
          · replace c28 := Bool.eq_false_iff.mpr c28
            subst c28
            have H1 : (some false) = some r := by rw [if_neg (show ¬ (false = true) by decide)] at H; exact H
            clear H
            have H := H1
            clear H1
            obtain rfl := Option.some.inj H
            go_enter Try.func24, Try.ntmps24
            go_wp2_with (first | (go_at_call 45; (with_reducible refine (pte_Bad.calls a0 false _ A25.out).mono ?_); rintro e w' ⟨rfl, ⟨nd, rfl⟩⟩) | (go_at_call 46; (with_reducible refine (pte_Leaf.calls a0 false _ A27.out).mono ?_); rintro e w' ⟨rfl, ⟨nd, rfl⟩⟩))
            go_ret
            exact ⟨by first | rfl | (simp; done) | (simp [*]; done), by repeat (first | exact Drawn0.refl _ | apply Drawn0.step)⟩
      · rw [if_neg c24] at H
        have c24b0 : (a1 == 3) = false := beq_eq_false_iff_ne.mpr c24
        have c24b1 : (a1 != 3) = true := bne_iff_ne.mpr c24
        obtain rfl := Option.some.inj H
        go_enter Try.func24, Try.ntmps24
        go_wp2
        go_ret
        exact ⟨by first | rfl | (simp; done) | (simp [*]; done), by repeat (first | exact Drawn0.refl _ | apply Drawn0.step)⟩

end Go.Proofs.Ytecmjcfhbedelaa.QWalkEnds
