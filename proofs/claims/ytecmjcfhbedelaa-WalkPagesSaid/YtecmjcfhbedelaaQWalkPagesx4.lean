-- Laid by a program of this session (wip/tpl/mine.sh), out of the program's form in Lean: Lean checks it.
import Derived.Test.YtecmjcfhbedelaaQWalkPagesx0
import Derived.Test.YtecmjcfhbedelaaQWalkPagesx1
import Derived.Test.YtecmjcfhbedelaaQWalkPagesx2
import Derived.Test.YtecmjcfhbedelaaQWalkPagesx3
namespace Go.Proofs.Ytecmjcfhbedelaa.QWalkPages
open Go.RowKit Go.Proofs.YtecmjcfhbedelaaW.PrintWords Go.Proofs.YtecmjcfhbedelaaW.PrintLast Go.Proofs.YtecmjcfhbedelaaW.PrintMore
attribute [local go_sem] max2_int min2_int max_two min_two max_three min_three max_four min_four   -- for this text's walks alone
set_option linter.unusedVariables false
set_option linter.unusedSimpArgs false

/-! ### corrallaw9_WalkPages: function 5 -/
mutual
def corrallaw9_WalkPages.j0 : Nat → Int → Int → Bool → Int → Int → Bool → Int → Option (Bool)
  | 0, _, _, _, _, _, _, _ => none
  | k + 1, x0, x1, x2, x3, x4, x13, x14 => (pte_Make.f k x1 (([x3] : List Int))).bind fun t219 => (if (Go.bits .and .u32 x3 10) = 0 then (some x13) else (if x2 = true then (corrallaw9_WalkPages.j1 k x0 x1 x2 x3 x4 x13 x14 (([(⟨(4096 + (4 * (x0 / 4194304))) % 4294967296, t219, 0, 0, false⟩ : S52)] : List (S52)))) else ((pte_Make.f k 2 (([1] : List Int))).bind fun t226 => (corrallaw9_WalkPages.j1 k x0 x1 x2 x3 x4 x13 x14 (([(⟨(4096 + (4 * (x0 / 4194304))) % 4294967296, t226, 0, 0, false⟩ : S52), (⟨(8192 + (4 * (Go.bits .and .u32 (x0 / 4096) 1023))) % 4294967296, t219, 0, 0, false⟩ : S52)] : List (S52)))))))
def corrallaw9_WalkPages.j1 : Nat → Int → Int → Bool → Int → Int → Bool → Int → List (S52) → Option (Bool)
  | 0, _, _, _, _, _, _, _, _ => none
  | k + 1, x0, x1, x2, x3, x4, x13, x14, x17 => (walk_Next.f k 2147483649 x14 x0 x4 65536 x17).bind fun bt230 => ((corrallaw9_map3.f x4).bind fun t236 => (if (Go.bits .and .u32 x3 16) = 0 then (corrallaw9_WalkPages.j2 k x0 x1 x2 x4 x13 false bt230.1 bt230.2.1 bt230.2.2.1 bt230.2.2.2.1 bt230.2.2.2.2) else (if (Go.bits .and .u32 x3 t236) = 0 then (corrallaw9_WalkPages.j2 k x0 x1 x2 x4 x13 false bt230.1 bt230.2.1 bt230.2.2.1 bt230.2.2.2.1 bt230.2.2.2.2) else (if (Go.bits .and .u32 x3 4) = 0 then (corrallaw9_WalkPages.j2 k x0 x1 x2 x4 x13 (!false) bt230.1 bt230.2.1 bt230.2.2.1 bt230.2.2.2.1 bt230.2.2.2.2) else (corrallaw9_WalkPages.j2 k x0 x1 x2 x4 x13 (!((Go.bits .and .u32 x3 2) == 0)) bt230.1 bt230.2.1 bt230.2.2.1 bt230.2.2.2.1 bt230.2.2.2.2)))))
def corrallaw9_WalkPages.j2 : Nat → Int → Int → Bool → Int → Bool → Bool → Int → Int → Int → Int → Int → Option (Bool)
  | 0, _, _, _, _, _, _, _, _, _, _, _ => none
  | k + 1, x0, x1, x2, x4, x13, x20, x236000, x236001, x236002, x236003, x236004 => if x20 = true then (if x2 = true then (if x13 = true then (if x236000 = 1 then (some (x236001 == (Go.bits .or .u32 ((x1 * 4096) % 4294967296) (Go.bits .and .u32 x0 4194303)))) else (some false)) else (some false)) else (if x13 = true then (if x236000 = 1 then (some (x236001 == (Go.bits .or .u32 ((x1 * 4096) % 4294967296) (Go.bits .and .u32 x0 4095)))) else (some false)) else (some false))) else (if x13 = true then (if x236000 = 2 then ((pte_Cause.f x4 true).bind fun t237 => (some (x236004 == t237))) else (some false)) else (some false))
end
def corrallaw9_WalkPages.f (k : Nat) (a0 : Int) (a1 : Int) (a2 : Bool) (a3 : Int) (a4 : Int) (a5 : Bool) : Option (Bool) := (corrallaw9_first.f k).bind fun t209 => (if t209 = true then (if a5 = true then (if a2 = true then (corrallaw9_WalkPages.j0 k a0 (Go.bits .andNot .u32 (Go.bits .and .u32 a1 1048575) 1023) a2 (Go.bits .or .u32 (Go.bits .or .u32 (Go.bits .or .u32 (Go.bits .and .u32 a3 62) 1) 64) 128) a4 t209 0) else (corrallaw9_WalkPages.j0 k a0 (Go.bits .and .u32 a1 1048575) a2 (Go.bits .or .u32 (Go.bits .or .u32 (Go.bits .or .u32 (Go.bits .and .u32 a3 62) 1) 64) 128) a4 t209 0)) else ((walk_Next.f k 2147483649 3 a0 a4 65536 ([] : List (S52))).bind fun bt210 => (if bt210.1 = 1 then (some (bt210.2.1 == a0)) else (some false)))) else (some false))
theorem corrallaw9_WalkPages.mono_l : ∀ k, (∀ y0 y1 y2 y3 y4 y5 y6, LeO (corrallaw9_WalkPages.j0 k y0 y1 y2 y3 y4 y5 y6) (corrallaw9_WalkPages.j0 (k + 1) y0 y1 y2 y3 y4 y5 y6)) ∧ (∀ y0 y1 y2 y3 y4 y5 y6 y7, LeO (corrallaw9_WalkPages.j1 k y0 y1 y2 y3 y4 y5 y6 y7) (corrallaw9_WalkPages.j1 (k + 1) y0 y1 y2 y3 y4 y5 y6 y7)) ∧ (∀ y0 y1 y2 y3 y4 y5 y6 y7 y8 y9 y10, LeO (corrallaw9_WalkPages.j2 k y0 y1 y2 y3 y4 y5 y6 y7 y8 y9 y10) (corrallaw9_WalkPages.j2 (k + 1) y0 y1 y2 y3 y4 y5 y6 y7 y8 y9 y10))
  | 0 => ⟨fun _ _ _ _ _ _ _ r h => by simp [corrallaw9_WalkPages.j0] at h, fun _ _ _ _ _ _ _ _ r h => by simp [corrallaw9_WalkPages.j1] at h, fun _ _ _ _ _ _ _ _ _ _ _ r h => by simp [corrallaw9_WalkPages.j2] at h⟩
  | k + 1 => by
    obtain ⟨ih0, ih1, ih2⟩ := corrallaw9_WalkPages.mono_l k
    refine ⟨?_, ?_, ?_⟩
    · intro y0 y1 y2 y3 y4 y5 y6
      unfold corrallaw9_WalkPages.j0
      repeat' first
      | (with_reducible exact ih0 _ _ _ _ _ _ _)
      | (with_reducible exact ih1 _ _ _ _ _ _ _ _)
      | (with_reducible exact ih2 _ _ _ _ _ _ _ _ _ _ _)
      | (with_reducible exact corrallaw9_first.mono _)
      | (with_reducible exact pte_Make.mono _ _ _)
      | (with_reducible exact walk_Next.mono _ _ _ _ _ _ _)
      | (with_reducible exact LeO.refl _)
      | (with_reducible exact LeO.none _)
      | (with_reducible refine LeO.ite ?_ ?_)
      | (with_reducible refine LeO.bind ?_ (fun _ => ?_))
      | exact ih0 _ _ _ _ _ _ _
      | exact ih1 _ _ _ _ _ _ _ _
      | exact ih2 _ _ _ _ _ _ _ _ _ _ _
      | exact corrallaw9_first.mono _
      | exact pte_Make.mono _ _ _
      | exact walk_Next.mono _ _ _ _ _ _ _
      | exact LeO.none _
      | refine LeO.ite ?_ ?_
      | refine LeO.bind ?_ (fun _ => ?_)
    · intro y0 y1 y2 y3 y4 y5 y6 y7
      unfold corrallaw9_WalkPages.j1
      repeat' first
      | (with_reducible exact ih0 _ _ _ _ _ _ _)
      | (with_reducible exact ih1 _ _ _ _ _ _ _ _)
      | (with_reducible exact ih2 _ _ _ _ _ _ _ _ _ _ _)
      | (with_reducible exact corrallaw9_first.mono _)
      | (with_reducible exact pte_Make.mono _ _ _)
      | (with_reducible exact walk_Next.mono _ _ _ _ _ _ _)
      | (with_reducible exact LeO.refl _)
      | (with_reducible exact LeO.none _)
      | (with_reducible refine LeO.ite ?_ ?_)
      | (with_reducible refine LeO.bind ?_ (fun _ => ?_))
      | exact ih0 _ _ _ _ _ _ _
      | exact ih1 _ _ _ _ _ _ _ _
      | exact ih2 _ _ _ _ _ _ _ _ _ _ _
      | exact corrallaw9_first.mono _
      | exact pte_Make.mono _ _ _
      | exact walk_Next.mono _ _ _ _ _ _ _
      | exact LeO.none _
      | refine LeO.ite ?_ ?_
      | refine LeO.bind ?_ (fun _ => ?_)
    · intro y0 y1 y2 y3 y4 y5 y6 y7 y8 y9 y10
      unfold corrallaw9_WalkPages.j2
      repeat' first
      | (with_reducible exact ih0 _ _ _ _ _ _ _)
      | (with_reducible exact ih1 _ _ _ _ _ _ _ _)
      | (with_reducible exact ih2 _ _ _ _ _ _ _ _ _ _ _)
      | (with_reducible exact corrallaw9_first.mono _)
      | (with_reducible exact pte_Make.mono _ _ _)
      | (with_reducible exact walk_Next.mono _ _ _ _ _ _ _)
      | (with_reducible exact LeO.refl _)
      | (with_reducible exact LeO.none _)
      | (with_reducible refine LeO.ite ?_ ?_)
      | (with_reducible refine LeO.bind ?_ (fun _ => ?_))
      | exact ih0 _ _ _ _ _ _ _
      | exact ih1 _ _ _ _ _ _ _ _
      | exact ih2 _ _ _ _ _ _ _ _ _ _ _
      | exact corrallaw9_first.mono _
      | exact pte_Make.mono _ _ _
      | exact walk_Next.mono _ _ _ _ _ _ _
      | exact LeO.none _
      | refine LeO.ite ?_ ?_
      | refine LeO.bind ?_ (fun _ => ?_)
theorem corrallaw9_WalkPages.mono : ∀ a0 a1 a2 a3 a4 a5 k, LeO (corrallaw9_WalkPages.f k a0 a1 a2 a3 a4 a5) (corrallaw9_WalkPages.f (k + 1) a0 a1 a2 a3 a4 a5) := by
  intro a0 a1 a2 a3 a4 a5 k
  obtain ⟨ih0, ih1, ih2⟩ := corrallaw9_WalkPages.mono_l k
  unfold corrallaw9_WalkPages.f
  repeat' first
      | (with_reducible exact ih0 _ _ _ _ _ _ _)
      | (with_reducible exact ih1 _ _ _ _ _ _ _ _)
      | (with_reducible exact ih2 _ _ _ _ _ _ _ _ _ _ _)
      | (with_reducible exact corrallaw9_first.mono _)
      | (with_reducible exact pte_Make.mono _ _ _)
      | (with_reducible exact walk_Next.mono _ _ _ _ _ _ _)
      | (with_reducible exact LeO.refl _)
      | (with_reducible exact LeO.none _)
      | (with_reducible refine LeO.ite ?_ ?_)
      | (with_reducible refine LeO.bind ?_ (fun _ => ?_))
      | exact ih0 _ _ _ _ _ _ _
      | exact ih1 _ _ _ _ _ _ _ _
      | exact ih2 _ _ _ _ _ _ _ _ _ _ _
      | exact corrallaw9_first.mono _
      | exact pte_Make.mono _ _ _
      | exact walk_Next.mono _ _ _ _ _ _ _
      | exact LeO.none _
      | refine LeO.ite ?_ ?_
      | refine LeO.bind ?_ (fun _ => ?_)
set_option maxHeartbeats 8000000 in
set_option maxRecDepth 100000 in
theorem corrallaw9_WalkPages.calls (k : Nat) (a0 : Int) (a1 : Int) (a2 : Bool) (a3 : Int) (a4 : Int) (a5 : Bool) (r : Bool) (w : World) (h : corrallaw9_WalkPages.f k a0 a1 a2 a3 a4 a5 = some r) (hrtrue : r = true) :
    Calls Try.prog 5 #[.int .u32 a0, .int .u32 a1, .bool a2, .int .u32 a3, .int .i64 a4, .bool a5] w fun e w' => e = .returned (.bool r) ∧ Below w.heap.size w w' := by
  have hu48 := Try.underlying48
  have hu52 := Try.underlying52
  have HB := Aside0.mk (Below.refl w.heap.size w)
  have H : ((corrallaw9_first.f k).bind fun t209 => (if t209 = true then (if a5 = true then (if a2 = true then (corrallaw9_WalkPages.j0 k a0 (Go.bits .andNot .u32 (Go.bits .and .u32 a1 1048575) 1023) a2 (Go.bits .or .u32 (Go.bits .or .u32 (Go.bits .or .u32 (Go.bits .and .u32 a3 62) 1) 64) 128) a4 t209 0) else (corrallaw9_WalkPages.j0 k a0 (Go.bits .and .u32 a1 1048575) a2 (Go.bits .or .u32 (Go.bits .or .u32 (Go.bits .or .u32 (Go.bits .and .u32 a3 62) 1) 64) 128) a4 t209 0)) else ((walk_Next.f k 2147483649 3 a0 a4 65536 ([] : List (S52))).bind fun bt210 => (if bt210.1 = 1 then (some (bt210.2.1 == a0)) else (some false)))) else (some false))) = some r := h
  clear h
  have HRT := Aside0.mk hrtrue
  clear hrtrue
  replace H := Option.bind_eq_some_iff.mp H
  obtain ⟨t209, A70, H⟩ := H
  replace H : (if t209 = true then (if a5 = true then (if a2 = true then (corrallaw9_WalkPages.j0 k a0 (Go.bits .andNot .u32 (Go.bits .and .u32 a1 1048575) 1023) a2 (Go.bits .or .u32 (Go.bits .or .u32 (Go.bits .or .u32 (Go.bits .and .u32 a3 62) 1) 64) 128) a4 t209 0) else (corrallaw9_WalkPages.j0 k a0 (Go.bits .and .u32 a1 1048575) a2 (Go.bits .or .u32 (Go.bits .or .u32 (Go.bits .or .u32 (Go.bits .and .u32 a3 62) 1) 64) 128) a4 t209 0)) else ((walk_Next.f k 2147483649 3 a0 a4 65536 ([] : List (S52))).bind fun bt210 => (if bt210.1 = 1 then (some (bt210.2.1 == a0)) else (some false)))) else (some false)) = some r := H
  have A7 := Aside0.mk A70
  clear A70
  by_cases c8 : t209 = true
  · subst c8
    have H1 : (if a5 = true then (if a2 = true then (corrallaw9_WalkPages.j0 k a0 (Go.bits .andNot .u32 (Go.bits .and .u32 a1 1048575) 1023) a2 (Go.bits .or .u32 (Go.bits .or .u32 (Go.bits .or .u32 (Go.bits .and .u32 a3 62) 1) 64) 128) a4 true 0) else (corrallaw9_WalkPages.j0 k a0 (Go.bits .and .u32 a1 1048575) a2 (Go.bits .or .u32 (Go.bits .or .u32 (Go.bits .or .u32 (Go.bits .and .u32 a3 62) 1) 64) 128) a4 true 0)) else ((walk_Next.f k 2147483649 3 a0 a4 65536 ([] : List (S52))).bind fun bt210 => (if bt210.1 = 1 then (some (bt210.2.1 == a0)) else (some false)))) = some r := by rw [if_pos rfl] at H; exact H
    clear H
    have H := H1
    clear H1
    by_cases c9 : a5 = true
    · subst c9
      have H1 : (if a2 = true then (corrallaw9_WalkPages.j0 k a0 (Go.bits .andNot .u32 (Go.bits .and .u32 a1 1048575) 1023) a2 (Go.bits .or .u32 (Go.bits .or .u32 (Go.bits .or .u32 (Go.bits .and .u32 a3 62) 1) 64) 128) a4 true 0) else (corrallaw9_WalkPages.j0 k a0 (Go.bits .and .u32 a1 1048575) a2 (Go.bits .or .u32 (Go.bits .or .u32 (Go.bits .or .u32 (Go.bits .and .u32 a3 62) 1) 64) 128) a4 true 0)) = some r := by rw [if_pos rfl] at H; exact H
      clear H
      have H := H1
      clear H1
      have HC10 := Aside0.mk H
      clear H
      go_enter Try.func5, Try.ntmps5
      go_upto_if 49 with (first | (go_at_call 19; (with_reducible refine (corrallaw9_first.calls k  true _ A7.out).mono ?_); rintro e w11 ⟨rfl, hb⟩; have n0_ := Aside0.mk (below_step (by repeat (first | (with_reducible first | exact HB.out | apply below_alloc | apply pw_below_drewN | apply below_drew1) | exact HB.out)) hb); clear HB; have HB := n0_; clear n0_; (try clear hb); (try clear hb2); (try clear hk); (try clear hi)))
      repeat (go_quiet (first | (go_at_call 19; (with_reducible refine (corrallaw9_first.calls k  true _ A7.out).mono ?_); rintro e w11 ⟨rfl, hb⟩; have n0_ := Aside0.mk (below_step (by repeat (first | (with_reducible first | exact HB.out | apply below_alloc | apply pw_below_drewN | apply below_drew1) | exact HB.out)) hb); clear HB; have HB := n0_; clear n0_; (try clear hb); (try clear hb2); (try clear hk); (try clear hi))); go_upto_if 49 with (first | (go_at_call 19; (with_reducible refine (corrallaw9_first.calls k  true _ A7.out).mono ?_); rintro e w11 ⟨rfl, hb⟩; have n0_ := Aside0.mk (below_step (by repeat (first | (with_reducible first | exact HB.out | apply below_alloc | apply pw_below_drewN | apply below_drew1) | exact HB.out)) hb); clear HB; have HB := n0_; clear n0_; (try clear hb); (try clear hb2); (try clear hk); (try clear hi))))
      (try simp only [Act.put, List.setIfInBounds_toArray, List.set_cons_zero, List.set_cons_succ])
      go_cut [1] (fun v1 wc => ∃ (kq : Nat) (x1_9 : Int), v1 = .int .u32 x1_9 ∧ Aside0 (corrallaw9_WalkPages.j0 kq a0 x1_9 a2 (Go.bits .or .u32 (Go.bits .or .u32 (Go.bits .or .u32 (Go.bits .and .u32 a3 62) 1) 64) 128) a4 true 0 = some r) ∧ Aside0 (kq ≤ k) ∧ Aside0 (Below w.heap.size w wc))
      case first =>
        have H := HC10.out
        clear HC10
        by_cases c12 : a2 = true
        · subst c12
          have H1 : (corrallaw9_WalkPages.j0 k a0 (Go.bits .andNot .u32 (Go.bits .and .u32 a1 1048575) 1023) true (Go.bits .or .u32 (Go.bits .or .u32 (Go.bits .or .u32 (Go.bits .and .u32 a3 62) 1) 64) 128) a4 true 0) = some r := by rw [if_pos rfl] at H; exact H
          clear H
          have H := H1
          clear H1
          have H' := Aside0.mk H
          clear H
          go_wp2
          repeat (go_quiet (fail); try go_wp2)
          go_meet
          case rel => exact ⟨_, (Go.bits .andNot .u32 (Go.bits .and .u32 a1 1048575) 1023), (by first | rfl | (simp; done) | (simp [*]; done)), H', ⟨by first | omega | exact Nat.le_refl _⟩, ⟨by repeat (first | (with_reducible first | exact HB.out | apply below_alloc | apply pw_below_drewN | apply below_drew1) | exact HB.out)⟩⟩
        · replace c12 := Bool.eq_false_iff.mpr c12
          subst c12
          have H1 : (corrallaw9_WalkPages.j0 k a0 (Go.bits .and .u32 a1 1048575) false (Go.bits .or .u32 (Go.bits .or .u32 (Go.bits .or .u32 (Go.bits .and .u32 a3 62) 1) 64) 128) a4 true 0) = some r := by rw [if_neg (show ¬ (false = true) by decide)] at H; exact H
          clear H
          have H := H1
          clear H1
          have H' := Aside0.mk H
          clear H
          go_wp2
          repeat (go_quiet (fail); try go_wp2)
          go_meet
          case rel => exact ⟨_, (Go.bits .and .u32 a1 1048575), (by first | rfl | (simp; done) | (simp [*]; done)), H', ⟨by first | omega | exact Nat.le_refl _⟩, ⟨by repeat (first | (with_reducible first | exact HB.out | apply below_alloc | apply pw_below_drewN | apply below_drew1) | exact HB.out)⟩⟩
      case rest =>
        clear HC10
        try clear c1
        try clear p2
        try clear c5
        try clear c8
        try clear c9
        try clear c12
        obtain ⟨kq, x1_9, rfl, HA, HJ9, HB⟩ := hcut
        cases kq with
        | zero => exact absurd HA.out (by simp [corrallaw9_WalkPages.j0])
        | succ kj9 =>
          have H := HA.out
          clear HA
          simp only [corrallaw9_WalkPages.j0] at H
          obtain ⟨y216, hy216⟩ : ∃ y_ : List Int, y_ = (([(Go.bits .or .u32 (Go.bits .or .u32 (Go.bits .or .u32 (Go.bits .and .u32 a3 62) 1) 64) 128)] : List Int)) := ⟨_, rfl⟩
          replace H : ((pte_Make.f kj9 x1_9 y216).bind fun t219 => (if (Go.bits .and .u32 (Go.bits .or .u32 (Go.bits .or .u32 (Go.bits .or .u32 (Go.bits .and .u32 a3 62) 1) 64) 128) 10) = 0 then (some true) else (if a2 = true then (corrallaw9_WalkPages.j1 kj9 a0 x1_9 a2 (Go.bits .or .u32 (Go.bits .or .u32 (Go.bits .or .u32 (Go.bits .and .u32 a3 62) 1) 64) 128) a4 true 0 (([(⟨(4096 + (4 * (a0 / 4194304))) % 4294967296, t219, 0, 0, false⟩ : S52)] : List (S52)))) else ((pte_Make.f kj9 2 (([1] : List Int))).bind fun t226 => (corrallaw9_WalkPages.j1 kj9 a0 x1_9 a2 (Go.bits .or .u32 (Go.bits .or .u32 (Go.bits .or .u32 (Go.bits .and .u32 a3 62) 1) 64) 128) a4 true 0 (([(⟨(4096 + (4 * (a0 / 4194304))) % 4294967296, t226, 0, 0, false⟩ : S52), (⟨(8192 + (4 * (Go.bits .and .u32 (a0 / 4096) 1023))) % 4294967296, t219, 0, 0, false⟩ : S52)] : List (S52)))))))) = some r := by first | (rw [hy216]; with_reducible exact H) | (have H2_ := (Option.bind_some _ _).symm.trans H; rw [hy216]; with_reducible exact H2_) | (have H2_ := (Option.bind_some _ _).symm.trans H; with_reducible exact H2_) | with_reducible exact H | (rw [hy216]; exact H) | exact H
          have Ny216 := Aside0.mk hy216
          clear hy216
          replace H := Option.bind_eq_some_iff.mp H
          obtain ⟨t219, A130, H⟩ := H
          replace H : (if (Go.bits .and .u32 (Go.bits .or .u32 (Go.bits .or .u32 (Go.bits .or .u32 (Go.bits .and .u32 a3 62) 1) 64) 128) 10) = 0 then (some true) else (if a2 = true then (corrallaw9_WalkPages.j1 kj9 a0 x1_9 a2 (Go.bits .or .u32 (Go.bits .or .u32 (Go.bits .or .u32 (Go.bits .and .u32 a3 62) 1) 64) 128) a4 true 0 (([(⟨(4096 + (4 * (a0 / 4194304))) % 4294967296, t219, 0, 0, false⟩ : S52)] : List (S52)))) else ((pte_Make.f kj9 2 (([1] : List Int))).bind fun t226 => (corrallaw9_WalkPages.j1 kj9 a0 x1_9 a2 (Go.bits .or .u32 (Go.bits .or .u32 (Go.bits .or .u32 (Go.bits .and .u32 a3 62) 1) 64) 128) a4 true 0 (([(⟨(4096 + (4 * (a0 / 4194304))) % 4294967296, t226, 0, 0, false⟩ : S52), (⟨(8192 + (4 * (Go.bits .and .u32 (a0 / 4096) 1023))) % 4294967296, t219, 0, 0, false⟩ : S52)] : List (S52))))))) = some r := H
          have A13 := Aside0.mk A130
          clear A130
          by_cases c14 : (Go.bits .and .u32 (Go.bits .or .u32 (Go.bits .or .u32 (Go.bits .or .u32 (Go.bits .and .u32 a3 62) 1) 64) 128) 10) = 0
          · rw [if_pos c14] at H
            have c14b0 : ((Go.bits .and .u32 (Go.bits .or .u32 (Go.bits .or .u32 (Go.bits .or .u32 (Go.bits .and .u32 a3 62) 1) 64) 128) 10) == 0) = true := beq_iff_eq.mpr c14
            have c14b1 : ((Go.bits .and .u32 (Go.bits .or .u32 (Go.bits .or .u32 (Go.bits .or .u32 (Go.bits .and .u32 a3 62) 1) 64) 128) 10) != 0) = false := bne_eq_false_iff_eq.mpr c14
            clear c14
            clear HRT
            obtain rfl := Option.some.inj H
            go_wp2_with (first | ((with_reducible refine gate_dst (N := 54) rfl ?_); refine Kd.R_lit (Kd.int .u32) _ 23 ?hg (N := 54) ?hd (xs := ([(Go.bits .or .u32 (Go.bits .or .u32 (Go.bits .or .u32 (Go.bits .and .u32 a3 62) 1) 64) 128)] : List Int)) (inner := [.int .u32 (Go.bits .or .u32 (Go.bits .or .u32 (Go.bits .or .u32 (Go.bits .and .u32 a3 62) 1) 64) 128)]) (ok := fun _ => True) (okp := fun _ => True) ?hr ?hp (fun _ hk => hk) trivial (Below.refl _ _) (Nat.le_refl _) (by simp) ?_; (case hd => rfl); (case hg => rfl); (case hr => first | (go_simp; done) | (go_simp; rfl)); (case hp => exact (Reps.one (show Kd.M (Kd.int .u32) _ _ _ (Go.bits .or .u32 (Go.bits .or .u32 (Go.bits .or .u32 (Go.bits .and .u32 a3 62) 1) 64) 128) [.int .u32 (Go.bits .or .u32 (Go.bits .or .u32 (Go.bits .or .u32 (Go.bits .and .u32 a3 62) 1) 64) 128)] from rfl) (Reps.none _ _))); intro v217 w15 ho16 hb hg_ hnew_; clear hg_ hnew_; (first | rw [← Ny216.out] at ho16 | (simp only [Int.reduceToNat] at ho16; rw [← Ny216.out] at ho16)); have n0_ := Aside0.mk (Kd.R_lower ho16 (below_size (by repeat (first | (with_reducible first | exact HB.out | apply below_alloc | apply pw_below_drewN | apply below_drew1) | exact HB.out)))); have n1_ := Aside0.mk (below_step (by repeat (first | (with_reducible first | exact HB.out | apply below_alloc | apply pw_below_drewN | apply below_drew1) | exact HB.out)) hb); clear HB; have HO218 := n0_; have HB := n1_; clear n0_ n1_; clear hb ho16; obtain ⟨Ao17, co17, eo17⟩ := Kd.R_slice HO218.out; subst eo17) | (go_at_call 26; (with_reducible refine (pte_Make.calls kj9 x1_9 _ _ y216 t219 _ ?side1 ?side2 A13.out).mono ?_); (case side1 => repeat (first | exact (Kd.R_reads' HO218.out).2.2 | (with_reducible refine Kd.C_alloc ?_ _) | (with_reducible refine Kd.C_drewN ?_ _) | (with_reducible refine Kd.C_drew ?_))); (case side2 => exact (Kd.R_reads' HO218.out).2.1); rintro e w18 ⟨rfl, hb⟩; have n0_ := Aside0.mk (Kd.R_below (by (with_reducible repeat (first | apply Kd.R_alloc | apply Kd.R_drewN | apply Kd.R_drew)); exact HO218.out) hb); have n1_ := Aside0.mk (below_step (by repeat (first | (with_reducible first | exact HB.out | apply below_alloc | apply pw_below_drewN | apply below_drew1) | exact HB.out)) hb); clear HO218; clear HB; have HO218 := n0_; have HB := n1_; clear n0_ n1_; (try clear hb); (try clear hb2); (try clear hk); (try clear hi)))
            repeat (go_quiet (first | ((with_reducible refine gate_dst (N := 54) rfl ?_); refine Kd.R_lit (Kd.int .u32) _ 23 ?hg (N := 54) ?hd (xs := ([(Go.bits .or .u32 (Go.bits .or .u32 (Go.bits .or .u32 (Go.bits .and .u32 a3 62) 1) 64) 128)] : List Int)) (inner := [.int .u32 (Go.bits .or .u32 (Go.bits .or .u32 (Go.bits .or .u32 (Go.bits .and .u32 a3 62) 1) 64) 128)]) (ok := fun _ => True) (okp := fun _ => True) ?hr ?hp (fun _ hk => hk) trivial (Below.refl _ _) (Nat.le_refl _) (by simp) ?_; (case hd => rfl); (case hg => rfl); (case hr => first | (go_simp; done) | (go_simp; rfl)); (case hp => exact (Reps.one (show Kd.M (Kd.int .u32) _ _ _ (Go.bits .or .u32 (Go.bits .or .u32 (Go.bits .or .u32 (Go.bits .and .u32 a3 62) 1) 64) 128) [.int .u32 (Go.bits .or .u32 (Go.bits .or .u32 (Go.bits .or .u32 (Go.bits .and .u32 a3 62) 1) 64) 128)] from rfl) (Reps.none _ _))); intro v217 w15 ho16 hb hg_ hnew_; clear hg_ hnew_; (first | rw [← Ny216.out] at ho16 | (simp only [Int.reduceToNat] at ho16; rw [← Ny216.out] at ho16)); have n0_ := Aside0.mk (Kd.R_lower ho16 (below_size (by repeat (first | (with_reducible first | exact HB.out | apply below_alloc | apply pw_below_drewN | apply below_drew1) | exact HB.out)))); have n1_ := Aside0.mk (below_step (by repeat (first | (with_reducible first | exact HB.out | apply below_alloc | apply pw_below_drewN | apply below_drew1) | exact HB.out)) hb); clear HB; have HO218 := n0_; have HB := n1_; clear n0_ n1_; clear hb ho16; obtain ⟨Ao17, co17, eo17⟩ := Kd.R_slice HO218.out; subst eo17) | (go_at_call 26; (with_reducible refine (pte_Make.calls kj9 x1_9 _ _ y216 t219 _ ?side1 ?side2 A13.out).mono ?_); (case side1 => repeat (first | exact (Kd.R_reads' HO218.out).2.2 | (with_reducible refine Kd.C_alloc ?_ _) | (with_reducible refine Kd.C_drewN ?_ _) | (with_reducible refine Kd.C_drew ?_))); (case side2 => exact (Kd.R_reads' HO218.out).2.1); rintro e w18 ⟨rfl, hb⟩; have n0_ := Aside0.mk (Kd.R_below (by (with_reducible repeat (first | apply Kd.R_alloc | apply Kd.R_drewN | apply Kd.R_drew)); exact HO218.out) hb); have n1_ := Aside0.mk (below_step (by repeat (first | (with_reducible first | exact HB.out | apply below_alloc | apply pw_below_drewN | apply below_drew1) | exact HB.out)) hb); clear HO218; clear HB; have HO218 := n0_; have HB := n1_; clear n0_ n1_; (try clear hb); (try clear hb2); (try clear hk); (try clear hi))); try go_wp2_with (first | ((with_reducible refine gate_dst (N := 54) rfl ?_); refine Kd.R_lit (Kd.int .u32) _ 23 ?hg (N := 54) ?hd (xs := ([(Go.bits .or .u32 (Go.bits .or .u32 (Go.bits .or .u32 (Go.bits .and .u32 a3 62) 1) 64) 128)] : List Int)) (inner := [.int .u32 (Go.bits .or .u32 (Go.bits .or .u32 (Go.bits .or .u32 (Go.bits .and .u32 a3 62) 1) 64) 128)]) (ok := fun _ => True) (okp := fun _ => True) ?hr ?hp (fun _ hk => hk) trivial (Below.refl _ _) (Nat.le_refl _) (by simp) ?_; (case hd => rfl); (case hg => rfl); (case hr => first | (go_simp; done) | (go_simp; rfl)); (case hp => exact (Reps.one (show Kd.M (Kd.int .u32) _ _ _ (Go.bits .or .u32 (Go.bits .or .u32 (Go.bits .or .u32 (Go.bits .and .u32 a3 62) 1) 64) 128) [.int .u32 (Go.bits .or .u32 (Go.bits .or .u32 (Go.bits .or .u32 (Go.bits .and .u32 a3 62) 1) 64) 128)] from rfl) (Reps.none _ _))); intro v217 w15 ho16 hb hg_ hnew_; clear hg_ hnew_; (first | rw [← Ny216.out] at ho16 | (simp only [Int.reduceToNat] at ho16; rw [← Ny216.out] at ho16)); have n0_ := Aside0.mk (Kd.R_lower ho16 (below_size (by repeat (first | (with_reducible first | exact HB.out | apply below_alloc | apply pw_below_drewN | apply below_drew1) | exact HB.out)))); have n1_ := Aside0.mk (below_step (by repeat (first | (with_reducible first | exact HB.out | apply below_alloc | apply pw_below_drewN | apply below_drew1) | exact HB.out)) hb); clear HB; have HO218 := n0_; have HB := n1_; clear n0_ n1_; clear hb ho16; obtain ⟨Ao17, co17, eo17⟩ := Kd.R_slice HO218.out; subst eo17) | (go_at_call 26; (with_reducible refine (pte_Make.calls kj9 x1_9 _ _ y216 t219 _ ?side1 ?side2 A13.out).mono ?_); (case side1 => repeat (first | exact (Kd.R_reads' HO218.out).2.2 | (with_reducible refine Kd.C_alloc ?_ _) | (with_reducible refine Kd.C_drewN ?_ _) | (with_reducible refine Kd.C_drew ?_))); (case side2 => exact (Kd.R_reads' HO218.out).2.1); rintro e w18 ⟨rfl, hb⟩; have n0_ := Aside0.mk (Kd.R_below (by (with_reducible repeat (first | apply Kd.R_alloc | apply Kd.R_drewN | apply Kd.R_drew)); exact HO218.out) hb); have n1_ := Aside0.mk (below_step (by repeat (first | (with_reducible first | exact HB.out | apply below_alloc | apply pw_below_drewN | apply below_drew1) | exact HB.out)) hb); clear HO218; clear HB; have HO218 := n0_; have HB := n1_; clear n0_ n1_; (try clear hb); (try clear hb2); (try clear hk); (try clear hi))))
            go_ret
            exact ⟨by first | rfl | (simp [errW_none, errW_some] <;> rfl) | (simp [*, errW_none, errW_some] <;> rfl), by repeat (first | (with_reducible first | exact HB.out | apply below_alloc | apply pw_below_drewN | apply below_drew1) | exact HB.out)⟩
          · rw [if_neg c14] at H
            have c14b0 : ((Go.bits .and .u32 (Go.bits .or .u32 (Go.bits .or .u32 (Go.bits .or .u32 (Go.bits .and .u32 a3 62) 1) 64) 128) 10) == 0) = false := beq_eq_false_iff_ne.mpr c14
            have c14b1 : ((Go.bits .and .u32 (Go.bits .or .u32 (Go.bits .or .u32 (Go.bits .or .u32 (Go.bits .and .u32 a3 62) 1) 64) 128) 10) != 0) = true := bne_iff_ne.mpr c14
            obtain ⟨y220, hy220⟩ : ∃ y_ : List (S52), y_ = (([(⟨(4096 + (4 * (a0 / 4194304))) % 4294967296, t219, 0, 0, false⟩ : S52)] : List (S52))) := ⟨_, rfl⟩
            replace H : (if a2 = true then (corrallaw9_WalkPages.j1 kj9 a0 x1_9 a2 (Go.bits .or .u32 (Go.bits .or .u32 (Go.bits .or .u32 (Go.bits .and .u32 a3 62) 1) 64) 128) a4 true 0 y220) else ((pte_Make.f kj9 2 (([1] : List Int))).bind fun t226 => (corrallaw9_WalkPages.j1 kj9 a0 x1_9 a2 (Go.bits .or .u32 (Go.bits .or .u32 (Go.bits .or .u32 (Go.bits .and .u32 a3 62) 1) 64) 128) a4 true 0 (([(⟨(4096 + (4 * (a0 / 4194304))) % 4294967296, t226, 0, 0, false⟩ : S52), (⟨(8192 + (4 * (Go.bits .and .u32 (a0 / 4096) 1023))) % 4294967296, t219, 0, 0, false⟩ : S52)] : List (S52)))))) = some r := by first | (rw [hy220]; with_reducible exact H) | (have H2_ := (Option.bind_some _ _).symm.trans H; rw [hy220]; with_reducible exact H2_) | (have H2_ := (Option.bind_some _ _).symm.trans H; with_reducible exact H2_) | with_reducible exact H | (rw [hy220]; exact H) | exact H
            have Ny220 := Aside0.mk hy220
            clear hy220
            have HC19 := Aside0.mk H
            clear H
            go_upto_if 68 with (first | ((with_reducible refine gate_dst (N := 54) rfl ?_); refine Kd.R_lit (Kd.int .u32) _ 23 ?hg (N := 54) ?hd (xs := ([(Go.bits .or .u32 (Go.bits .or .u32 (Go.bits .or .u32 (Go.bits .and .u32 a3 62) 1) 64) 128)] : List Int)) (inner := [.int .u32 (Go.bits .or .u32 (Go.bits .or .u32 (Go.bits .or .u32 (Go.bits .and .u32 a3 62) 1) 64) 128)]) (ok := fun _ => True) (okp := fun _ => True) ?hr ?hp (fun _ hk => hk) trivial (Below.refl _ _) (Nat.le_refl _) (by simp) ?_; (case hd => rfl); (case hg => rfl); (case hr => first | (go_simp; done) | (go_simp; rfl)); (case hp => exact (Reps.one (show Kd.M (Kd.int .u32) _ _ _ (Go.bits .or .u32 (Go.bits .or .u32 (Go.bits .or .u32 (Go.bits .and .u32 a3 62) 1) 64) 128) [.int .u32 (Go.bits .or .u32 (Go.bits .or .u32 (Go.bits .or .u32 (Go.bits .and .u32 a3 62) 1) 64) 128)] from rfl) (Reps.none _ _))); intro v217 w20 ho21 hb hg_ hnew_; clear hg_ hnew_; (first | rw [← Ny216.out] at ho21 | (simp only [Int.reduceToNat] at ho21; rw [← Ny216.out] at ho21)); have n0_ := Aside0.mk (Kd.R_lower ho21 (below_size (by repeat (first | (with_reducible first | exact HB.out | apply below_alloc | apply pw_below_drewN | apply below_drew1) | exact HB.out)))); have n1_ := Aside0.mk (below_step (by repeat (first | (with_reducible first | exact HB.out | apply below_alloc | apply pw_below_drewN | apply below_drew1) | exact HB.out)) hb); clear HB; have HO218 := n0_; have HB := n1_; clear n0_ n1_; clear hb ho21; obtain ⟨Ao22, co22, eo22⟩ := Kd.R_slice HO218.out; subst eo22) | (go_at_call 26; (with_reducible refine (pte_Make.calls kj9 x1_9 _ _ y216 t219 _ ?side1 ?side2 A13.out).mono ?_); (case side1 => repeat (first | exact (Kd.R_reads' HO218.out).2.2 | (with_reducible refine Kd.C_alloc ?_ _) | (with_reducible refine Kd.C_drewN ?_ _) | (with_reducible refine Kd.C_drew ?_))); (case side2 => exact (Kd.R_reads' HO218.out).2.1); rintro e w23 ⟨rfl, hb⟩; have n0_ := Aside0.mk (Kd.R_below (by (with_reducible repeat (first | apply Kd.R_alloc | apply Kd.R_drewN | apply Kd.R_drew)); exact HO218.out) hb); have n1_ := Aside0.mk (below_step (by repeat (first | (with_reducible first | exact HB.out | apply below_alloc | apply pw_below_drewN | apply below_drew1) | exact HB.out)) hb); clear HO218; clear HB; have HO218 := n0_; have HB := n1_; clear n0_ n1_; (try clear hb); (try clear hb2); (try clear hk); (try clear hi)) | ((with_reducible refine gate_dst (N := 66) rfl ?_); refine Kd.R_lit k52 _ 52 ?hg (N := 66) ?hd (xs := ([(⟨(4096 + (4 * (a0 / 4194304))) % 4294967296, t219, 0, 0, false⟩ : S52)] : List (S52))) (inner := [.int .u32 ((4096 + (4 * (a0 / 4194304))) % 4294967296), .int .u32 t219, .int .u32 0, .int .i64 0, .bool false]) (ok := fun _ => True) (okp := fun _ => True) ?hr ?hp (fun _ hk => hk) trivial (Below.refl _ _) (Nat.le_refl _) (by simp) ?_; (case hd => rfl); (case hg => rfl); (case hr => first | (go_simp; done) | (go_simp; rfl)); (case hp => exact (Reps.c5 (show Kd.M k52 _ _ _ (⟨(4096 + (4 * (a0 / 4194304))) % 4294967296, t219, 0, 0, false⟩ : S52) [.int .u32 ((4096 + (4 * (a0 / 4194304))) % 4294967296), .int .u32 t219, .int .u32 0, .int .i64 0, .bool false] from (k52_mkM _ _ _ (⟨(4096 + (4 * (a0 / 4194304))) % 4294967296, t219, 0, 0, false⟩ : S52) )) (Reps.none _ _))); intro v221 w24 ho25 hb hg_ hnew_; clear hg_ hnew_; (first | rw [← Ny220.out] at ho25 | (simp only [Int.reduceToNat] at ho25; rw [← Ny220.out] at ho25)); have n0_ := Aside0.mk (Kd.R_below (by (with_reducible repeat (first | apply Kd.R_alloc | apply Kd.R_drewN | apply Kd.R_drew)); exact HO218.out) hb); have n1_ := Aside0.mk (Kd.R_lower ho25 (below_size (by repeat (first | (with_reducible first | exact HB.out | apply below_alloc | apply pw_below_drewN | apply below_drew1) | exact HB.out)))); have n2_ := Aside0.mk (below_step (by repeat (first | (with_reducible first | exact HB.out | apply below_alloc | apply pw_below_drewN | apply below_drew1) | exact HB.out)) hb); clear HO218; clear HB; have HO218 := n0_; have HO222 := n1_; have HB := n2_; clear n0_ n1_ n2_; clear hb ho25))
            repeat (go_quiet (first | ((with_reducible refine gate_dst (N := 54) rfl ?_); refine Kd.R_lit (Kd.int .u32) _ 23 ?hg (N := 54) ?hd (xs := ([(Go.bits .or .u32 (Go.bits .or .u32 (Go.bits .or .u32 (Go.bits .and .u32 a3 62) 1) 64) 128)] : List Int)) (inner := [.int .u32 (Go.bits .or .u32 (Go.bits .or .u32 (Go.bits .or .u32 (Go.bits .and .u32 a3 62) 1) 64) 128)]) (ok := fun _ => True) (okp := fun _ => True) ?hr ?hp (fun _ hk => hk) trivial (Below.refl _ _) (Nat.le_refl _) (by simp) ?_; (case hd => rfl); (case hg => rfl); (case hr => first | (go_simp; done) | (go_simp; rfl)); (case hp => exact (Reps.one (show Kd.M (Kd.int .u32) _ _ _ (Go.bits .or .u32 (Go.bits .or .u32 (Go.bits .or .u32 (Go.bits .and .u32 a3 62) 1) 64) 128) [.int .u32 (Go.bits .or .u32 (Go.bits .or .u32 (Go.bits .or .u32 (Go.bits .and .u32 a3 62) 1) 64) 128)] from rfl) (Reps.none _ _))); intro v217 w20 ho21 hb hg_ hnew_; clear hg_ hnew_; (first | rw [← Ny216.out] at ho21 | (simp only [Int.reduceToNat] at ho21; rw [← Ny216.out] at ho21)); have n0_ := Aside0.mk (Kd.R_lower ho21 (below_size (by repeat (first | (with_reducible first | exact HB.out | apply below_alloc | apply pw_below_drewN | apply below_drew1) | exact HB.out)))); have n1_ := Aside0.mk (below_step (by repeat (first | (with_reducible first | exact HB.out | apply below_alloc | apply pw_below_drewN | apply below_drew1) | exact HB.out)) hb); clear HB; have HO218 := n0_; have HB := n1_; clear n0_ n1_; clear hb ho21; obtain ⟨Ao22, co22, eo22⟩ := Kd.R_slice HO218.out; subst eo22) | (go_at_call 26; (with_reducible refine (pte_Make.calls kj9 x1_9 _ _ y216 t219 _ ?side1 ?side2 A13.out).mono ?_); (case side1 => repeat (first | exact (Kd.R_reads' HO218.out).2.2 | (with_reducible refine Kd.C_alloc ?_ _) | (with_reducible refine Kd.C_drewN ?_ _) | (with_reducible refine Kd.C_drew ?_))); (case side2 => exact (Kd.R_reads' HO218.out).2.1); rintro e w23 ⟨rfl, hb⟩; have n0_ := Aside0.mk (Kd.R_below (by (with_reducible repeat (first | apply Kd.R_alloc | apply Kd.R_drewN | apply Kd.R_drew)); exact HO218.out) hb); have n1_ := Aside0.mk (below_step (by repeat (first | (with_reducible first | exact HB.out | apply below_alloc | apply pw_below_drewN | apply below_drew1) | exact HB.out)) hb); clear HO218; clear HB; have HO218 := n0_; have HB := n1_; clear n0_ n1_; (try clear hb); (try clear hb2); (try clear hk); (try clear hi)) | ((with_reducible refine gate_dst (N := 66) rfl ?_); refine Kd.R_lit k52 _ 52 ?hg (N := 66) ?hd (xs := ([(⟨(4096 + (4 * (a0 / 4194304))) % 4294967296, t219, 0, 0, false⟩ : S52)] : List (S52))) (inner := [.int .u32 ((4096 + (4 * (a0 / 4194304))) % 4294967296), .int .u32 t219, .int .u32 0, .int .i64 0, .bool false]) (ok := fun _ => True) (okp := fun _ => True) ?hr ?hp (fun _ hk => hk) trivial (Below.refl _ _) (Nat.le_refl _) (by simp) ?_; (case hd => rfl); (case hg => rfl); (case hr => first | (go_simp; done) | (go_simp; rfl)); (case hp => exact (Reps.c5 (show Kd.M k52 _ _ _ (⟨(4096 + (4 * (a0 / 4194304))) % 4294967296, t219, 0, 0, false⟩ : S52) [.int .u32 ((4096 + (4 * (a0 / 4194304))) % 4294967296), .int .u32 t219, .int .u32 0, .int .i64 0, .bool false] from (k52_mkM _ _ _ (⟨(4096 + (4 * (a0 / 4194304))) % 4294967296, t219, 0, 0, false⟩ : S52) )) (Reps.none _ _))); intro v221 w24 ho25 hb hg_ hnew_; clear hg_ hnew_; (first | rw [← Ny220.out] at ho25 | (simp only [Int.reduceToNat] at ho25; rw [← Ny220.out] at ho25)); have n0_ := Aside0.mk (Kd.R_below (by (with_reducible repeat (first | apply Kd.R_alloc | apply Kd.R_drewN | apply Kd.R_drew)); exact HO218.out) hb); have n1_ := Aside0.mk (Kd.R_lower ho25 (below_size (by repeat (first | (with_reducible first | exact HB.out | apply below_alloc | apply pw_below_drewN | apply below_drew1) | exact HB.out)))); have n2_ := Aside0.mk (below_step (by repeat (first | (with_reducible first | exact HB.out | apply below_alloc | apply pw_below_drewN | apply below_drew1) | exact HB.out)) hb); clear HO218; clear HB; have HO218 := n0_; have HO222 := n1_; have HB := n2_; clear n0_ n1_ n2_; clear hb ho25)); go_upto_if 68 with (first | ((with_reducible refine gate_dst (N := 54) rfl ?_); refine Kd.R_lit (Kd.int .u32) _ 23 ?hg (N := 54) ?hd (xs := ([(Go.bits .or .u32 (Go.bits .or .u32 (Go.bits .or .u32 (Go.bits .and .u32 a3 62) 1) 64) 128)] : List Int)) (inner := [.int .u32 (Go.bits .or .u32 (Go.bits .or .u32 (Go.bits .or .u32 (Go.bits .and .u32 a3 62) 1) 64) 128)]) (ok := fun _ => True) (okp := fun _ => True) ?hr ?hp (fun _ hk => hk) trivial (Below.refl _ _) (Nat.le_refl _) (by simp) ?_; (case hd => rfl); (case hg => rfl); (case hr => first | (go_simp; done) | (go_simp; rfl)); (case hp => exact (Reps.one (show Kd.M (Kd.int .u32) _ _ _ (Go.bits .or .u32 (Go.bits .or .u32 (Go.bits .or .u32 (Go.bits .and .u32 a3 62) 1) 64) 128) [.int .u32 (Go.bits .or .u32 (Go.bits .or .u32 (Go.bits .or .u32 (Go.bits .and .u32 a3 62) 1) 64) 128)] from rfl) (Reps.none _ _))); intro v217 w20 ho21 hb hg_ hnew_; clear hg_ hnew_; (first | rw [← Ny216.out] at ho21 | (simp only [Int.reduceToNat] at ho21; rw [← Ny216.out] at ho21)); have n0_ := Aside0.mk (Kd.R_lower ho21 (below_size (by repeat (first | (with_reducible first | exact HB.out | apply below_alloc | apply pw_below_drewN | apply below_drew1) | exact HB.out)))); have n1_ := Aside0.mk (below_step (by repeat (first | (with_reducible first | exact HB.out | apply below_alloc | apply pw_below_drewN | apply below_drew1) | exact HB.out)) hb); clear HB; have HO218 := n0_; have HB := n1_; clear n0_ n1_; clear hb ho21; obtain ⟨Ao22, co22, eo22⟩ := Kd.R_slice HO218.out; subst eo22) | (go_at_call 26; (with_reducible refine (pte_Make.calls kj9 x1_9 _ _ y216 t219 _ ?side1 ?side2 A13.out).mono ?_); (case side1 => repeat (first | exact (Kd.R_reads' HO218.out).2.2 | (with_reducible refine Kd.C_alloc ?_ _) | (with_reducible refine Kd.C_drewN ?_ _) | (with_reducible refine Kd.C_drew ?_))); (case side2 => exact (Kd.R_reads' HO218.out).2.1); rintro e w23 ⟨rfl, hb⟩; have n0_ := Aside0.mk (Kd.R_below (by (with_reducible repeat (first | apply Kd.R_alloc | apply Kd.R_drewN | apply Kd.R_drew)); exact HO218.out) hb); have n1_ := Aside0.mk (below_step (by repeat (first | (with_reducible first | exact HB.out | apply below_alloc | apply pw_below_drewN | apply below_drew1) | exact HB.out)) hb); clear HO218; clear HB; have HO218 := n0_; have HB := n1_; clear n0_ n1_; (try clear hb); (try clear hb2); (try clear hk); (try clear hi)) | ((with_reducible refine gate_dst (N := 66) rfl ?_); refine Kd.R_lit k52 _ 52 ?hg (N := 66) ?hd (xs := ([(⟨(4096 + (4 * (a0 / 4194304))) % 4294967296, t219, 0, 0, false⟩ : S52)] : List (S52))) (inner := [.int .u32 ((4096 + (4 * (a0 / 4194304))) % 4294967296), .int .u32 t219, .int .u32 0, .int .i64 0, .bool false]) (ok := fun _ => True) (okp := fun _ => True) ?hr ?hp (fun _ hk => hk) trivial (Below.refl _ _) (Nat.le_refl _) (by simp) ?_; (case hd => rfl); (case hg => rfl); (case hr => first | (go_simp; done) | (go_simp; rfl)); (case hp => exact (Reps.c5 (show Kd.M k52 _ _ _ (⟨(4096 + (4 * (a0 / 4194304))) % 4294967296, t219, 0, 0, false⟩ : S52) [.int .u32 ((4096 + (4 * (a0 / 4194304))) % 4294967296), .int .u32 t219, .int .u32 0, .int .i64 0, .bool false] from (k52_mkM _ _ _ (⟨(4096 + (4 * (a0 / 4194304))) % 4294967296, t219, 0, 0, false⟩ : S52) )) (Reps.none _ _))); intro v221 w24 ho25 hb hg_ hnew_; clear hg_ hnew_; (first | rw [← Ny220.out] at ho25 | (simp only [Int.reduceToNat] at ho25; rw [← Ny220.out] at ho25)); have n0_ := Aside0.mk (Kd.R_below (by (with_reducible repeat (first | apply Kd.R_alloc | apply Kd.R_drewN | apply Kd.R_drew)); exact HO218.out) hb); have n1_ := Aside0.mk (Kd.R_lower ho25 (below_size (by repeat (first | (with_reducible first | exact HB.out | apply below_alloc | apply pw_below_drewN | apply below_drew1) | exact HB.out)))); have n2_ := Aside0.mk (below_step (by repeat (first | (with_reducible first | exact HB.out | apply below_alloc | apply pw_below_drewN | apply below_drew1) | exact HB.out)) hb); clear HO218; clear HB; have HO218 := n0_; have HO222 := n1_; have HB := n2_; clear n0_ n1_ n2_; clear hb ho25)))
            (try simp only [Act.put, List.setIfInBounds_toArray, List.set_cons_zero, List.set_cons_succ])
            go_cut [17] (fun v17 wc => ∃ (kq : Nat) (x17_18 : List (S52)), Aside0 (corrallaw9_WalkPages.j1 kq a0 x1_9 a2 (Go.bits .or .u32 (Go.bits .or .u32 (Go.bits .or .u32 (Go.bits .and .u32 a3 62) 1) 64) 128) a4 true 0 x17_18 = some r) ∧ Aside0 (kq ≤ kj9) ∧ Aside0 (Kd.R k52 52 wc w.heap.size (fun _ => True) v17 x17_18) ∧ Aside0 (Below w.heap.size w wc))
            case first =>
              have H := HC19.out
              clear HC19
              by_cases c26 : a2 = true
              · subst c26
                have H1 : (corrallaw9_WalkPages.j1 kj9 a0 x1_9 true (Go.bits .or .u32 (Go.bits .or .u32 (Go.bits .or .u32 (Go.bits .and .u32 a3 62) 1) 64) 128) a4 true 0 y220) = some r := by rw [if_pos rfl] at H; exact H
                clear H
                have H := H1
                clear H1
                have H' := Aside0.mk H
                clear H
                go_wp2
                repeat (go_quiet (fail); try go_wp2)
                go_meet
                case rel => exact ⟨_, (y220), H', ⟨by have := HJ9.out; first | omega | exact Nat.le_refl _⟩, ⟨by (with_reducible repeat (first | apply Kd.R_alloc | apply Kd.R_drewN | apply Kd.R_drew)); exact HO222.out⟩, ⟨by repeat (first | (with_reducible first | exact HB.out | apply below_alloc | apply pw_below_drewN | apply below_drew1) | exact HB.out)⟩⟩
              · replace c26 := Bool.eq_false_iff.mpr c26
                subst c26
                have H1 : ((pte_Make.f kj9 2 (([1] : List Int))).bind fun t226 => (corrallaw9_WalkPages.j1 kj9 a0 x1_9 false (Go.bits .or .u32 (Go.bits .or .u32 (Go.bits .or .u32 (Go.bits .and .u32 a3 62) 1) 64) 128) a4 true 0 (([(⟨(4096 + (4 * (a0 / 4194304))) % 4294967296, t226, 0, 0, false⟩ : S52), (⟨(8192 + (4 * (Go.bits .and .u32 (a0 / 4096) 1023))) % 4294967296, t219, 0, 0, false⟩ : S52)] : List (S52))))) = some r := by rw [if_neg (show ¬ (false = true) by decide)] at H; exact H
                clear H
                have H := H1
                clear H1
                obtain ⟨y223, hy223⟩ : ∃ y_ : List Int, y_ = (([1] : List Int)) := ⟨_, rfl⟩
                replace H : ((pte_Make.f kj9 2 y223).bind fun t226 => (corrallaw9_WalkPages.j1 kj9 a0 x1_9 false (Go.bits .or .u32 (Go.bits .or .u32 (Go.bits .or .u32 (Go.bits .and .u32 a3 62) 1) 64) 128) a4 true 0 (([(⟨(4096 + (4 * (a0 / 4194304))) % 4294967296, t226, 0, 0, false⟩ : S52), (⟨(8192 + (4 * (Go.bits .and .u32 (a0 / 4096) 1023))) % 4294967296, t219, 0, 0, false⟩ : S52)] : List (S52))))) = some r := by first | (rw [hy223]; with_reducible exact H) | (have H2_ := (Option.bind_some _ _).symm.trans H; rw [hy223]; with_reducible exact H2_) | (have H2_ := (Option.bind_some _ _).symm.trans H; with_reducible exact H2_) | with_reducible exact H | (rw [hy223]; exact H) | exact H
                have Ny223 := Aside0.mk hy223
                clear hy223
                replace H := Option.bind_eq_some_iff.mp H
                obtain ⟨t226, A270, H⟩ := H
                replace H : (corrallaw9_WalkPages.j1 kj9 a0 x1_9 false (Go.bits .or .u32 (Go.bits .or .u32 (Go.bits .or .u32 (Go.bits .and .u32 a3 62) 1) 64) 128) a4 true 0 (([(⟨(4096 + (4 * (a0 / 4194304))) % 4294967296, t226, 0, 0, false⟩ : S52), (⟨(8192 + (4 * (Go.bits .and .u32 (a0 / 4096) 1023))) % 4294967296, t219, 0, 0, false⟩ : S52)] : List (S52)))) = some r := H
                have A27 := Aside0.mk A270
                clear A270
                obtain ⟨y227, hy227⟩ : ∃ y_ : List (S52), y_ = (([(⟨(4096 + (4 * (a0 / 4194304))) % 4294967296, t226, 0, 0, false⟩ : S52), (⟨(8192 + (4 * (Go.bits .and .u32 (a0 / 4096) 1023))) % 4294967296, t219, 0, 0, false⟩ : S52)] : List (S52))) := ⟨_, rfl⟩
                replace H : (corrallaw9_WalkPages.j1 kj9 a0 x1_9 false (Go.bits .or .u32 (Go.bits .or .u32 (Go.bits .or .u32 (Go.bits .and .u32 a3 62) 1) 64) 128) a4 true 0 y227) = some r := by first | (rw [hy227]; with_reducible exact H) | (have H2_ := (Option.bind_some _ _).symm.trans H; rw [hy227]; with_reducible exact H2_) | (have H2_ := (Option.bind_some _ _).symm.trans H; with_reducible exact H2_) | with_reducible exact H | (rw [hy227]; exact H) | exact H
                have Ny227 := Aside0.mk hy227
                clear hy227
                have H' := Aside0.mk H
                clear H
                go_wp2_with (first | ((with_reducible refine gate_dst (N := 73) rfl ?_); refine Kd.R_lit (Kd.int .u32) _ 23 ?hg (N := 73) ?hd (xs := ([1] : List Int)) (inner := [.int .u32 1]) (ok := fun _ => True) (okp := fun _ => True) ?hr ?hp (fun _ hk => hk) trivial (Below.refl _ _) (Nat.le_refl _) (by simp) ?_; (case hd => rfl); (case hg => rfl); (case hr => first | (go_simp; done) | (go_simp; rfl)); (case hp => exact (Reps.one (show Kd.M (Kd.int .u32) _ _ _ 1 [.int .u32 1] from rfl) (Reps.none _ _))); intro v224 w28 ho29 hb hg_ hnew_; clear hg_ hnew_; (first | rw [← Ny223.out] at ho29 | (simp only [Int.reduceToNat] at ho29; rw [← Ny223.out] at ho29)); have n0_ := Aside0.mk (Kd.R_elder' (by (with_reducible repeat (first | apply Kd.R_alloc | apply Kd.R_drewN | apply Kd.R_drew)); exact HO218.out) (Kd.R_base ho29) hb); have n1_ := Aside0.mk (Kd.R_below (by (with_reducible repeat (first | apply Kd.R_alloc | apply Kd.R_drewN | apply Kd.R_drew)); exact HO222.out) hb); have n2_ := Aside0.mk (Kd.R_lower (Kd.R_new' ho29 (Kd.R_lt (by (with_reducible repeat (first | apply Kd.R_alloc | apply Kd.R_drewN | apply Kd.R_drew)); exact HO218.out))) (below_size (by repeat (first | (with_reducible first | exact HB.out | apply below_alloc | apply pw_below_drewN | apply below_drew1) | exact HB.out)))); have n3_ := Aside0.mk (below_step (by repeat (first | (with_reducible first | exact HB.out | apply below_alloc | apply pw_below_drewN | apply below_drew1) | exact HB.out)) hb); clear HO218; clear HO222; clear HB; have HO218 := n0_; have HO222 := n1_; have HO225 := n2_; have HB := n3_; clear n0_ n1_ n2_ n3_; clear hb ho29; obtain ⟨Ao30, co30, eo30⟩ := Kd.R_slice HO225.out; subst eo30) | (go_at_call 26; (with_reducible refine (pte_Make.calls kj9 2 _ _ y223 t226 _ ?side1 ?side2 A27.out).mono ?_); (case side1 => repeat (first | exact (Kd.R_reads' HO225.out).2.2 | (with_reducible refine Kd.C_alloc ?_ _) | (with_reducible refine Kd.C_drewN ?_ _) | (with_reducible refine Kd.C_drew ?_))); (case side2 => exact (Kd.R_reads' HO225.out).2.1); rintro e w31 ⟨rfl, hb⟩; have n0_ := Aside0.mk (Kd.R_below (by (with_reducible repeat (first | apply Kd.R_alloc | apply Kd.R_drewN | apply Kd.R_drew)); exact HO218.out) hb); have n1_ := Aside0.mk (Kd.R_below (by (with_reducible repeat (first | apply Kd.R_alloc | apply Kd.R_drewN | apply Kd.R_drew)); exact HO222.out) hb); have n2_ := Aside0.mk (Kd.R_below (by (with_reducible repeat (first | apply Kd.R_alloc | apply Kd.R_drewN | apply Kd.R_drew)); exact HO225.out) hb); have n3_ := Aside0.mk (below_step (by repeat (first | (with_reducible first | exact HB.out | apply below_alloc | apply pw_below_drewN | apply below_drew1) | exact HB.out)) hb); clear HO218; clear HO222; clear HO225; clear HB; have HO218 := n0_; have HO222 := n1_; have HO225 := n2_; have HB := n3_; clear n0_ n1_ n2_ n3_; (try clear hb); (try clear hb2); (try clear hk); (try clear hi)) | ((with_reducible refine gate_dst (N := 83) rfl ?_); refine Kd.R_lit k52 _ 52 ?hg (N := 83) ?hd (xs := ([(⟨(4096 + (4 * (a0 / 4194304))) % 4294967296, t226, 0, 0, false⟩ : S52), (⟨(8192 + (4 * (Go.bits .and .u32 (a0 / 4096) 1023))) % 4294967296, t219, 0, 0, false⟩ : S52)] : List (S52))) (inner := [.int .u32 ((4096 + (4 * (a0 / 4194304))) % 4294967296), .int .u32 t226, .int .u32 0, .int .i64 0, .bool false, .int .u32 ((8192 + (4 * (Go.bits .and .u32 (a0 / 4096) 1023))) % 4294967296), .int .u32 t219, .int .u32 0, .int .i64 0, .bool false]) (ok := fun _ => True) (okp := fun _ => True) ?hr ?hp (fun _ hk => hk) trivial (Below.refl _ _) (Nat.le_refl _) (by simp) ?_; (case hd => rfl); (case hg => rfl); (case hr => first | (go_simp; done) | (go_simp; rfl)); (case hp => exact (Reps.c5 (show Kd.M k52 _ _ _ (⟨(4096 + (4 * (a0 / 4194304))) % 4294967296, t226, 0, 0, false⟩ : S52) [.int .u32 ((4096 + (4 * (a0 / 4194304))) % 4294967296), .int .u32 t226, .int .u32 0, .int .i64 0, .bool false] from (k52_mkM _ _ _ (⟨(4096 + (4 * (a0 / 4194304))) % 4294967296, t226, 0, 0, false⟩ : S52) )) (Reps.c5 (show Kd.M k52 _ _ _ (⟨(8192 + (4 * (Go.bits .and .u32 (a0 / 4096) 1023))) % 4294967296, t219, 0, 0, false⟩ : S52) [.int .u32 ((8192 + (4 * (Go.bits .and .u32 (a0 / 4096) 1023))) % 4294967296), .int .u32 t219, .int .u32 0, .int .i64 0, .bool false] from (k52_mkM _ _ _ (⟨(8192 + (4 * (Go.bits .and .u32 (a0 / 4096) 1023))) % 4294967296, t219, 0, 0, false⟩ : S52) )) (Reps.none _ _)))); intro v228 w32 ho33 hb hg_ hnew_; clear hg_ hnew_; (first | rw [← Ny227.out] at ho33 | (simp only [Int.reduceToNat] at ho33; rw [← Ny227.out] at ho33)); have n0_ := Aside0.mk (Kd.R_below (by (with_reducible repeat (first | apply Kd.R_alloc | apply Kd.R_drewN | apply Kd.R_drew)); exact HO218.out) hb); have n1_ := Aside0.mk (Kd.R_elder' (by (with_reducible repeat (first | apply Kd.R_alloc | apply Kd.R_drewN | apply Kd.R_drew)); exact HO222.out) (Kd.R_base ho33) hb); have n2_ := Aside0.mk (Kd.R_below (by (with_reducible repeat (first | apply Kd.R_alloc | apply Kd.R_drewN | apply Kd.R_drew)); exact HO225.out) hb); have n3_ := Aside0.mk (Kd.R_lower (Kd.R_new' ho33 (Kd.R_lt (by (with_reducible repeat (first | apply Kd.R_alloc | apply Kd.R_drewN | apply Kd.R_drew)); exact HO222.out))) (below_size (by repeat (first | (with_reducible first | exact HB.out | apply below_alloc | apply pw_below_drewN | apply below_drew1) | exact HB.out)))); have n4_ := Aside0.mk (below_step (by repeat (first | (with_reducible first | exact HB.out | apply below_alloc | apply pw_below_drewN | apply below_drew1) | exact HB.out)) hb); clear HO218; clear HO222; clear HO225; clear HB; have HO218 := n0_; have HO222 := n1_; have HO225 := n2_; have HO229 := n3_; have HB := n4_; clear n0_ n1_ n2_ n3_ n4_; clear hb ho33))
                repeat (go_quiet (first | ((with_reducible refine gate_dst (N := 73) rfl ?_); refine Kd.R_lit (Kd.int .u32) _ 23 ?hg (N := 73) ?hd (xs := ([1] : List Int)) (inner := [.int .u32 1]) (ok := fun _ => True) (okp := fun _ => True) ?hr ?hp (fun _ hk => hk) trivial (Below.refl _ _) (Nat.le_refl _) (by simp) ?_; (case hd => rfl); (case hg => rfl); (case hr => first | (go_simp; done) | (go_simp; rfl)); (case hp => exact (Reps.one (show Kd.M (Kd.int .u32) _ _ _ 1 [.int .u32 1] from rfl) (Reps.none _ _))); intro v224 w28 ho29 hb hg_ hnew_; clear hg_ hnew_; (first | rw [← Ny223.out] at ho29 | (simp only [Int.reduceToNat] at ho29; rw [← Ny223.out] at ho29)); have n0_ := Aside0.mk (Kd.R_elder' (by (with_reducible repeat (first | apply Kd.R_alloc | apply Kd.R_drewN | apply Kd.R_drew)); exact HO218.out) (Kd.R_base ho29) hb); have n1_ := Aside0.mk (Kd.R_below (by (with_reducible repeat (first | apply Kd.R_alloc | apply Kd.R_drewN | apply Kd.R_drew)); exact HO222.out) hb); have n2_ := Aside0.mk (Kd.R_lower (Kd.R_new' ho29 (Kd.R_lt (by (with_reducible repeat (first | apply Kd.R_alloc | apply Kd.R_drewN | apply Kd.R_drew)); exact HO218.out))) (below_size (by repeat (first | (with_reducible first | exact HB.out | apply below_alloc | apply pw_below_drewN | apply below_drew1) | exact HB.out)))); have n3_ := Aside0.mk (below_step (by repeat (first | (with_reducible first | exact HB.out | apply below_alloc | apply pw_below_drewN | apply below_drew1) | exact HB.out)) hb); clear HO218; clear HO222; clear HB; have HO218 := n0_; have HO222 := n1_; have HO225 := n2_; have HB := n3_; clear n0_ n1_ n2_ n3_; clear hb ho29; obtain ⟨Ao30, co30, eo30⟩ := Kd.R_slice HO225.out; subst eo30) | (go_at_call 26; (with_reducible refine (pte_Make.calls kj9 2 _ _ y223 t226 _ ?side1 ?side2 A27.out).mono ?_); (case side1 => repeat (first | exact (Kd.R_reads' HO225.out).2.2 | (with_reducible refine Kd.C_alloc ?_ _) | (with_reducible refine Kd.C_drewN ?_ _) | (with_reducible refine Kd.C_drew ?_))); (case side2 => exact (Kd.R_reads' HO225.out).2.1); rintro e w31 ⟨rfl, hb⟩; have n0_ := Aside0.mk (Kd.R_below (by (with_reducible repeat (first | apply Kd.R_alloc | apply Kd.R_drewN | apply Kd.R_drew)); exact HO218.out) hb); have n1_ := Aside0.mk (Kd.R_below (by (with_reducible repeat (first | apply Kd.R_alloc | apply Kd.R_drewN | apply Kd.R_drew)); exact HO222.out) hb); have n2_ := Aside0.mk (Kd.R_below (by (with_reducible repeat (first | apply Kd.R_alloc | apply Kd.R_drewN | apply Kd.R_drew)); exact HO225.out) hb); have n3_ := Aside0.mk (below_step (by repeat (first | (with_reducible first | exact HB.out | apply below_alloc | apply pw_below_drewN | apply below_drew1) | exact HB.out)) hb); clear HO218; clear HO222; clear HO225; clear HB; have HO218 := n0_; have HO222 := n1_; have HO225 := n2_; have HB := n3_; clear n0_ n1_ n2_ n3_; (try clear hb); (try clear hb2); (try clear hk); (try clear hi)) | ((with_reducible refine gate_dst (N := 83) rfl ?_); refine Kd.R_lit k52 _ 52 ?hg (N := 83) ?hd (xs := ([(⟨(4096 + (4 * (a0 / 4194304))) % 4294967296, t226, 0, 0, false⟩ : S52), (⟨(8192 + (4 * (Go.bits .and .u32 (a0 / 4096) 1023))) % 4294967296, t219, 0, 0, false⟩ : S52)] : List (S52))) (inner := [.int .u32 ((4096 + (4 * (a0 / 4194304))) % 4294967296), .int .u32 t226, .int .u32 0, .int .i64 0, .bool false, .int .u32 ((8192 + (4 * (Go.bits .and .u32 (a0 / 4096) 1023))) % 4294967296), .int .u32 t219, .int .u32 0, .int .i64 0, .bool false]) (ok := fun _ => True) (okp := fun _ => True) ?hr ?hp (fun _ hk => hk) trivial (Below.refl _ _) (Nat.le_refl _) (by simp) ?_; (case hd => rfl); (case hg => rfl); (case hr => first | (go_simp; done) | (go_simp; rfl)); (case hp => exact (Reps.c5 (show Kd.M k52 _ _ _ (⟨(4096 + (4 * (a0 / 4194304))) % 4294967296, t226, 0, 0, false⟩ : S52) [.int .u32 ((4096 + (4 * (a0 / 4194304))) % 4294967296), .int .u32 t226, .int .u32 0, .int .i64 0, .bool false] from (k52_mkM _ _ _ (⟨(4096 + (4 * (a0 / 4194304))) % 4294967296, t226, 0, 0, false⟩ : S52) )) (Reps.c5 (show Kd.M k52 _ _ _ (⟨(8192 + (4 * (Go.bits .and .u32 (a0 / 4096) 1023))) % 4294967296, t219, 0, 0, false⟩ : S52) [.int .u32 ((8192 + (4 * (Go.bits .and .u32 (a0 / 4096) 1023))) % 4294967296), .int .u32 t219, .int .u32 0, .int .i64 0, .bool false] from (k52_mkM _ _ _ (⟨(8192 + (4 * (Go.bits .and .u32 (a0 / 4096) 1023))) % 4294967296, t219, 0, 0, false⟩ : S52) )) (Reps.none _ _)))); intro v228 w32 ho33 hb hg_ hnew_; clear hg_ hnew_; (first | rw [← Ny227.out] at ho33 | (simp only [Int.reduceToNat] at ho33; rw [← Ny227.out] at ho33)); have n0_ := Aside0.mk (Kd.R_below (by (with_reducible repeat (first | apply Kd.R_alloc | apply Kd.R_drewN | apply Kd.R_drew)); exact HO218.out) hb); have n1_ := Aside0.mk (Kd.R_elder' (by (with_reducible repeat (first | apply Kd.R_alloc | apply Kd.R_drewN | apply Kd.R_drew)); exact HO222.out) (Kd.R_base ho33) hb); have n2_ := Aside0.mk (Kd.R_below (by (with_reducible repeat (first | apply Kd.R_alloc | apply Kd.R_drewN | apply Kd.R_drew)); exact HO225.out) hb); have n3_ := Aside0.mk (Kd.R_lower (Kd.R_new' ho33 (Kd.R_lt (by (with_reducible repeat (first | apply Kd.R_alloc | apply Kd.R_drewN | apply Kd.R_drew)); exact HO222.out))) (below_size (by repeat (first | (with_reducible first | exact HB.out | apply below_alloc | apply pw_below_drewN | apply below_drew1) | exact HB.out)))); have n4_ := Aside0.mk (below_step (by repeat (first | (with_reducible first | exact HB.out | apply below_alloc | apply pw_below_drewN | apply below_drew1) | exact HB.out)) hb); clear HO218; clear HO222; clear HO225; clear HB; have HO218 := n0_; have HO222 := n1_; have HO225 := n2_; have HO229 := n3_; have HB := n4_; clear n0_ n1_ n2_ n3_ n4_; clear hb ho33)); try go_wp2_with (first | ((with_reducible refine gate_dst (N := 73) rfl ?_); refine Kd.R_lit (Kd.int .u32) _ 23 ?hg (N := 73) ?hd (xs := ([1] : List Int)) (inner := [.int .u32 1]) (ok := fun _ => True) (okp := fun _ => True) ?hr ?hp (fun _ hk => hk) trivial (Below.refl _ _) (Nat.le_refl _) (by simp) ?_; (case hd => rfl); (case hg => rfl); (case hr => first | (go_simp; done) | (go_simp; rfl)); (case hp => exact (Reps.one (show Kd.M (Kd.int .u32) _ _ _ 1 [.int .u32 1] from rfl) (Reps.none _ _))); intro v224 w28 ho29 hb hg_ hnew_; clear hg_ hnew_; (first | rw [← Ny223.out] at ho29 | (simp only [Int.reduceToNat] at ho29; rw [← Ny223.out] at ho29)); have n0_ := Aside0.mk (Kd.R_elder' (by (with_reducible repeat (first | apply Kd.R_alloc | apply Kd.R_drewN | apply Kd.R_drew)); exact HO218.out) (Kd.R_base ho29) hb); have n1_ := Aside0.mk (Kd.R_below (by (with_reducible repeat (first | apply Kd.R_alloc | apply Kd.R_drewN | apply Kd.R_drew)); exact HO222.out) hb); have n2_ := Aside0.mk (Kd.R_lower (Kd.R_new' ho29 (Kd.R_lt (by (with_reducible repeat (first | apply Kd.R_alloc | apply Kd.R_drewN | apply Kd.R_drew)); exact HO218.out))) (below_size (by repeat (first | (with_reducible first | exact HB.out | apply below_alloc | apply pw_below_drewN | apply below_drew1) | exact HB.out)))); have n3_ := Aside0.mk (below_step (by repeat (first | (with_reducible first | exact HB.out | apply below_alloc | apply pw_below_drewN | apply below_drew1) | exact HB.out)) hb); clear HO218; clear HO222; clear HB; have HO218 := n0_; have HO222 := n1_; have HO225 := n2_; have HB := n3_; clear n0_ n1_ n2_ n3_; clear hb ho29; obtain ⟨Ao30, co30, eo30⟩ := Kd.R_slice HO225.out; subst eo30) | (go_at_call 26; (with_reducible refine (pte_Make.calls kj9 2 _ _ y223 t226 _ ?side1 ?side2 A27.out).mono ?_); (case side1 => repeat (first | exact (Kd.R_reads' HO225.out).2.2 | (with_reducible refine Kd.C_alloc ?_ _) | (with_reducible refine Kd.C_drewN ?_ _) | (with_reducible refine Kd.C_drew ?_))); (case side2 => exact (Kd.R_reads' HO225.out).2.1); rintro e w31 ⟨rfl, hb⟩; have n0_ := Aside0.mk (Kd.R_below (by (with_reducible repeat (first | apply Kd.R_alloc | apply Kd.R_drewN | apply Kd.R_drew)); exact HO218.out) hb); have n1_ := Aside0.mk (Kd.R_below (by (with_reducible repeat (first | apply Kd.R_alloc | apply Kd.R_drewN | apply Kd.R_drew)); exact HO222.out) hb); have n2_ := Aside0.mk (Kd.R_below (by (with_reducible repeat (first | apply Kd.R_alloc | apply Kd.R_drewN | apply Kd.R_drew)); exact HO225.out) hb); have n3_ := Aside0.mk (below_step (by repeat (first | (with_reducible first | exact HB.out | apply below_alloc | apply pw_below_drewN | apply below_drew1) | exact HB.out)) hb); clear HO218; clear HO222; clear HO225; clear HB; have HO218 := n0_; have HO222 := n1_; have HO225 := n2_; have HB := n3_; clear n0_ n1_ n2_ n3_; (try clear hb); (try clear hb2); (try clear hk); (try clear hi)) | ((with_reducible refine gate_dst (N := 83) rfl ?_); refine Kd.R_lit k52 _ 52 ?hg (N := 83) ?hd (xs := ([(⟨(4096 + (4 * (a0 / 4194304))) % 4294967296, t226, 0, 0, false⟩ : S52), (⟨(8192 + (4 * (Go.bits .and .u32 (a0 / 4096) 1023))) % 4294967296, t219, 0, 0, false⟩ : S52)] : List (S52))) (inner := [.int .u32 ((4096 + (4 * (a0 / 4194304))) % 4294967296), .int .u32 t226, .int .u32 0, .int .i64 0, .bool false, .int .u32 ((8192 + (4 * (Go.bits .and .u32 (a0 / 4096) 1023))) % 4294967296), .int .u32 t219, .int .u32 0, .int .i64 0, .bool false]) (ok := fun _ => True) (okp := fun _ => True) ?hr ?hp (fun _ hk => hk) trivial (Below.refl _ _) (Nat.le_refl _) (by simp) ?_; (case hd => rfl); (case hg => rfl); (case hr => first | (go_simp; done) | (go_simp; rfl)); (case hp => exact (Reps.c5 (show Kd.M k52 _ _ _ (⟨(4096 + (4 * (a0 / 4194304))) % 4294967296, t226, 0, 0, false⟩ : S52) [.int .u32 ((4096 + (4 * (a0 / 4194304))) % 4294967296), .int .u32 t226, .int .u32 0, .int .i64 0, .bool false] from (k52_mkM _ _ _ (⟨(4096 + (4 * (a0 / 4194304))) % 4294967296, t226, 0, 0, false⟩ : S52) )) (Reps.c5 (show Kd.M k52 _ _ _ (⟨(8192 + (4 * (Go.bits .and .u32 (a0 / 4096) 1023))) % 4294967296, t219, 0, 0, false⟩ : S52) [.int .u32 ((8192 + (4 * (Go.bits .and .u32 (a0 / 4096) 1023))) % 4294967296), .int .u32 t219, .int .u32 0, .int .i64 0, .bool false] from (k52_mkM _ _ _ (⟨(8192 + (4 * (Go.bits .and .u32 (a0 / 4096) 1023))) % 4294967296, t219, 0, 0, false⟩ : S52) )) (Reps.none _ _)))); intro v228 w32 ho33 hb hg_ hnew_; clear hg_ hnew_; (first | rw [← Ny227.out] at ho33 | (simp only [Int.reduceToNat] at ho33; rw [← Ny227.out] at ho33)); have n0_ := Aside0.mk (Kd.R_below (by (with_reducible repeat (first | apply Kd.R_alloc | apply Kd.R_drewN | apply Kd.R_drew)); exact HO218.out) hb); have n1_ := Aside0.mk (Kd.R_elder' (by (with_reducible repeat (first | apply Kd.R_alloc | apply Kd.R_drewN | apply Kd.R_drew)); exact HO222.out) (Kd.R_base ho33) hb); have n2_ := Aside0.mk (Kd.R_below (by (with_reducible repeat (first | apply Kd.R_alloc | apply Kd.R_drewN | apply Kd.R_drew)); exact HO225.out) hb); have n3_ := Aside0.mk (Kd.R_lower (Kd.R_new' ho33 (Kd.R_lt (by (with_reducible repeat (first | apply Kd.R_alloc | apply Kd.R_drewN | apply Kd.R_drew)); exact HO222.out))) (below_size (by repeat (first | (with_reducible first | exact HB.out | apply below_alloc | apply pw_below_drewN | apply below_drew1) | exact HB.out)))); have n4_ := Aside0.mk (below_step (by repeat (first | (with_reducible first | exact HB.out | apply below_alloc | apply pw_below_drewN | apply below_drew1) | exact HB.out)) hb); clear HO218; clear HO222; clear HO225; clear HB; have HO218 := n0_; have HO222 := n1_; have HO225 := n2_; have HO229 := n3_; have HB := n4_; clear n0_ n1_ n2_ n3_ n4_; clear hb ho33)))
                go_meet
                case rel => exact ⟨_, (y227), H', ⟨by have := HJ9.out; first | omega | exact Nat.le_refl _⟩, ⟨by (with_reducible repeat (first | apply Kd.R_alloc | apply Kd.R_drewN | apply Kd.R_drew)); exact Kd.R_mono HO229.out (fun _ hk => trivial)⟩, ⟨by repeat (first | (with_reducible first | exact HB.out | apply below_alloc | apply pw_below_drewN | apply below_drew1) | exact HB.out)⟩⟩
            case rest =>
              clear HC19
              try clear c1
              try clear c2
              try clear p2
              try clear c5
              try clear c8
              try clear c9
              try clear c12
              try clear c14
              try clear c14b0
              try clear c14b1
              try clear c26
              try clear p2
              obtain ⟨kq, x17_18, HA, HJ18, HO_17, HB⟩ := hcut
              cases kq with
              | zero => exact absurd HA.out (by simp [corrallaw9_WalkPages.j1])
              | succ kj18 =>
                have H := HA.out
                clear HA
                simp only [corrallaw9_WalkPages.j1] at H
                replace H := Option.bind_eq_some_iff.mp H
                obtain ⟨⟨t230, t231, t232, t233, t234⟩, A340, H⟩ := H
                replace H : ((corrallaw9_map3.f a4).bind fun t236 => (if (Go.bits .and .u32 (Go.bits .or .u32 (Go.bits .or .u32 (Go.bits .or .u32 (Go.bits .and .u32 a3 62) 1) 64) 128) 16) = 0 then (corrallaw9_WalkPages.j2 kj18 a0 x1_9 a2 a4 true false t230 t231 t232 t233 t234) else (if (Go.bits .and .u32 (Go.bits .or .u32 (Go.bits .or .u32 (Go.bits .or .u32 (Go.bits .and .u32 a3 62) 1) 64) 128) t236) = 0 then (corrallaw9_WalkPages.j2 kj18 a0 x1_9 a2 a4 true false t230 t231 t232 t233 t234) else (if (Go.bits .and .u32 (Go.bits .or .u32 (Go.bits .or .u32 (Go.bits .or .u32 (Go.bits .and .u32 a3 62) 1) 64) 128) 4) = 0 then (corrallaw9_WalkPages.j2 kj18 a0 x1_9 a2 a4 true (!false) t230 t231 t232 t233 t234) else (corrallaw9_WalkPages.j2 kj18 a0 x1_9 a2 a4 true (!((Go.bits .and .u32 (Go.bits .or .u32 (Go.bits .or .u32 (Go.bits .or .u32 (Go.bits .and .u32 a3 62) 1) 64) 128) 2) == 0)) t230 t231 t232 t233 t234))))) = some r := H
                have A34 := Aside0.mk A340
                clear A340
                replace H := Option.bind_eq_some_iff.mp H
                obtain ⟨t236, A350, H⟩ := H
                replace H : (if (Go.bits .and .u32 (Go.bits .or .u32 (Go.bits .or .u32 (Go.bits .or .u32 (Go.bits .and .u32 a3 62) 1) 64) 128) 16) = 0 then (corrallaw9_WalkPages.j2 kj18 a0 x1_9 a2 a4 true false t230 t231 t232 t233 t234) else (if (Go.bits .and .u32 (Go.bits .or .u32 (Go.bits .or .u32 (Go.bits .or .u32 (Go.bits .and .u32 a3 62) 1) 64) 128) t236) = 0 then (corrallaw9_WalkPages.j2 kj18 a0 x1_9 a2 a4 true false t230 t231 t232 t233 t234) else (if (Go.bits .and .u32 (Go.bits .or .u32 (Go.bits .or .u32 (Go.bits .or .u32 (Go.bits .and .u32 a3 62) 1) 64) 128) 4) = 0 then (corrallaw9_WalkPages.j2 kj18 a0 x1_9 a2 a4 true (!false) t230 t231 t232 t233 t234) else (corrallaw9_WalkPages.j2 kj18 a0 x1_9 a2 a4 true (!((Go.bits .and .u32 (Go.bits .or .u32 (Go.bits .or .u32 (Go.bits .or .u32 (Go.bits .and .u32 a3 62) 1) 64) 128) 2) == 0)) t230 t231 t232 t233 t234)))) = some r := H
                have A35 := Aside0.mk A350
                clear A350
                have HC36 := Aside0.mk H
                clear H
                obtain ⟨Ao37, co37, eo37⟩ := Kd.R_slice HO_17.out
                subst eo37
                go_upto_region 20 with (first | (go_at_call 21; (with_reducible refine (walk_Next.calls kj18 2147483649 0 a0 a4 65536 _ _ x17_18 t230 t231 t232 t233 t234 _ ?side1 ?side2 A34.out).mono ?_); (case side1 => repeat (first | exact (Kd.R_reads' HO_17.out).2.2 | (with_reducible refine Kd.C_alloc ?_ _) | (with_reducible refine Kd.C_drewN ?_ _) | (with_reducible refine Kd.C_drew ?_))); (case side2 => exact (Kd.R_reads' HO_17.out).2.1); rintro e w38 ⟨rfl, hb⟩; have n0_ := Aside0.mk (Kd.R_below (by (with_reducible repeat (first | apply Kd.R_alloc | apply Kd.R_drewN | apply Kd.R_drew)); exact HO_17.out) hb); have n1_ := Aside0.mk (below_step (by repeat (first | (with_reducible first | exact HB.out | apply below_alloc | apply pw_below_drewN | apply below_drew1) | exact HB.out)) hb); clear HO_17; clear HB; have HO_17 := n0_; have HB := n1_; clear n0_ n1_; (try clear hb); (try clear hb2); (try clear hk); (try clear hi)) | ((with_reducible refine gate_dst (N := 18) rfl ?_); refine box_event ?hg (N := 18) ?hd (cs := #[.int .i64 0, .int .u32 0, .int .u32 0, .int .u32 0, .int .u32 0]) (t := 48) ?hr ?_; (case hd => rfl); (case hg => rfl); (case hr => first | (go_simp; done) | (go_simp; rfl)); intro gb235 hg w39 hbox hb; have n0_ := Aside0.mk (Kd.R_below (by (with_reducible repeat (first | apply Kd.R_alloc | apply Kd.R_drewN | apply Kd.R_drew)); exact HO_17.out) hb); have n1_ := Aside0.mk (below_step (by repeat (first | (with_reducible first | exact HB.out | apply below_alloc | apply pw_below_drewN | apply below_drew1) | exact HB.out)) hb); have n2_ := Aside0.mk (hbox); have n3_ := Aside0.mk ((by rw [hg]; exact (below_size (by repeat (first | (with_reducible first | exact HB.out | apply below_alloc | apply pw_below_drewN | apply below_drew1) | exact HB.out))) : w.heap.size ≤ gb235)); have n4_ := Aside0.mk ((by rw [hg]; exact (below_size (by repeat (first | (with_reducible first | exact HB.out | apply below_alloc | apply pw_below_drewN | apply below_drew1) | exact HB.out))) : w.heap.size ≤ gb235)); clear HO_17; clear HB; have HO_17 := n0_; have HB := n1_; have BK235 := n2_; have GW235 := n3_; have GE235 := n4_; clear n0_ n1_ n2_ n3_ n4_; clear hb hbox hg; have hcz40_0 : w39.cell? ⟨gb235, 0, none⟩ = some (.int .i64 0) := (blk_cell BK235.out 0).trans rfl; have hcz40_1 : w39.cell? ⟨gb235, 1, none⟩ = some (.int .u32 0) := (blk_cell BK235.out 1).trans rfl; have hcz40_2 : w39.cell? ⟨gb235, 2, none⟩ = some (.int .u32 0) := (blk_cell BK235.out 2).trans rfl; have hcz40_3 : w39.cell? ⟨gb235, 3, none⟩ = some (.int .u32 0) := (blk_cell BK235.out 3).trans rfl; have hcz40_4 : w39.cell? ⟨gb235, 4, none⟩ = some (.int .u32 0) := (blk_cell BK235.out 4).trans rfl; have hfz40_0 := blk_frozen BK235.out 0; have hfz40_1 := blk_frozen BK235.out 1; have hfz40_2 := blk_frozen BK235.out 2; have hfz40_3 := blk_frozen BK235.out 3; have hfz40_4 := blk_frozen BK235.out 4) | (go_at_call 27; (with_reducible refine (corrallaw9_map3.calls a4 t236 _ A35.out).mono ?_); rintro e w' ⟨rfl, ⟨nd, rfl⟩⟩; (try first | exact ⟨rfl, _, World.drewN_drewN _ _ _⟩ | exact ⟨rfl, _, Eq.trans (World.drewN_drewN _ _ _) (congrArg (World.drewN _) (Nat.add_assoc _ _ _))⟩)))
                repeat (go_quiet (first | (go_at_call 21; (with_reducible refine (walk_Next.calls kj18 2147483649 0 a0 a4 65536 _ _ x17_18 t230 t231 t232 t233 t234 _ ?side1 ?side2 A34.out).mono ?_); (case side1 => repeat (first | exact (Kd.R_reads' HO_17.out).2.2 | (with_reducible refine Kd.C_alloc ?_ _) | (with_reducible refine Kd.C_drewN ?_ _) | (with_reducible refine Kd.C_drew ?_))); (case side2 => exact (Kd.R_reads' HO_17.out).2.1); rintro e w38 ⟨rfl, hb⟩; have n0_ := Aside0.mk (Kd.R_below (by (with_reducible repeat (first | apply Kd.R_alloc | apply Kd.R_drewN | apply Kd.R_drew)); exact HO_17.out) hb); have n1_ := Aside0.mk (below_step (by repeat (first | (with_reducible first | exact HB.out | apply below_alloc | apply pw_below_drewN | apply below_drew1) | exact HB.out)) hb); clear HO_17; clear HB; have HO_17 := n0_; have HB := n1_; clear n0_ n1_; (try clear hb); (try clear hb2); (try clear hk); (try clear hi)) | ((with_reducible refine gate_dst (N := 18) rfl ?_); refine box_event ?hg (N := 18) ?hd (cs := #[.int .i64 0, .int .u32 0, .int .u32 0, .int .u32 0, .int .u32 0]) (t := 48) ?hr ?_; (case hd => rfl); (case hg => rfl); (case hr => first | (go_simp; done) | (go_simp; rfl)); intro gb235 hg w39 hbox hb; have n0_ := Aside0.mk (Kd.R_below (by (with_reducible repeat (first | apply Kd.R_alloc | apply Kd.R_drewN | apply Kd.R_drew)); exact HO_17.out) hb); have n1_ := Aside0.mk (below_step (by repeat (first | (with_reducible first | exact HB.out | apply below_alloc | apply pw_below_drewN | apply below_drew1) | exact HB.out)) hb); have n2_ := Aside0.mk (hbox); have n3_ := Aside0.mk ((by rw [hg]; exact (below_size (by repeat (first | (with_reducible first | exact HB.out | apply below_alloc | apply pw_below_drewN | apply below_drew1) | exact HB.out))) : w.heap.size ≤ gb235)); have n4_ := Aside0.mk ((by rw [hg]; exact (below_size (by repeat (first | (with_reducible first | exact HB.out | apply below_alloc | apply pw_below_drewN | apply below_drew1) | exact HB.out))) : w.heap.size ≤ gb235)); clear HO_17; clear HB; have HO_17 := n0_; have HB := n1_; have BK235 := n2_; have GW235 := n3_; have GE235 := n4_; clear n0_ n1_ n2_ n3_ n4_; clear hb hbox hg; have hcz40_0 : w39.cell? ⟨gb235, 0, none⟩ = some (.int .i64 0) := (blk_cell BK235.out 0).trans rfl; have hcz40_1 : w39.cell? ⟨gb235, 1, none⟩ = some (.int .u32 0) := (blk_cell BK235.out 1).trans rfl; have hcz40_2 : w39.cell? ⟨gb235, 2, none⟩ = some (.int .u32 0) := (blk_cell BK235.out 2).trans rfl; have hcz40_3 : w39.cell? ⟨gb235, 3, none⟩ = some (.int .u32 0) := (blk_cell BK235.out 3).trans rfl; have hcz40_4 : w39.cell? ⟨gb235, 4, none⟩ = some (.int .u32 0) := (blk_cell BK235.out 4).trans rfl; have hfz40_0 := blk_frozen BK235.out 0; have hfz40_1 := blk_frozen BK235.out 1; have hfz40_2 := blk_frozen BK235.out 2; have hfz40_3 := blk_frozen BK235.out 3; have hfz40_4 := blk_frozen BK235.out 4) | (go_at_call 27; (with_reducible refine (corrallaw9_map3.calls a4 t236 _ A35.out).mono ?_); rintro e w' ⟨rfl, ⟨nd, rfl⟩⟩; (try first | exact ⟨rfl, _, World.drewN_drewN _ _ _⟩ | exact ⟨rfl, _, Eq.trans (World.drewN_drewN _ _ _) (congrArg (World.drewN _) (Nat.add_assoc _ _ _))⟩))); go_upto_region 20 with (first | (go_at_call 21; (with_reducible refine (walk_Next.calls kj18 2147483649 0 a0 a4 65536 _ _ x17_18 t230 t231 t232 t233 t234 _ ?side1 ?side2 A34.out).mono ?_); (case side1 => repeat (first | exact (Kd.R_reads' HO_17.out).2.2 | (with_reducible refine Kd.C_alloc ?_ _) | (with_reducible refine Kd.C_drewN ?_ _) | (with_reducible refine Kd.C_drew ?_))); (case side2 => exact (Kd.R_reads' HO_17.out).2.1); rintro e w38 ⟨rfl, hb⟩; have n0_ := Aside0.mk (Kd.R_below (by (with_reducible repeat (first | apply Kd.R_alloc | apply Kd.R_drewN | apply Kd.R_drew)); exact HO_17.out) hb); have n1_ := Aside0.mk (below_step (by repeat (first | (with_reducible first | exact HB.out | apply below_alloc | apply pw_below_drewN | apply below_drew1) | exact HB.out)) hb); clear HO_17; clear HB; have HO_17 := n0_; have HB := n1_; clear n0_ n1_; (try clear hb); (try clear hb2); (try clear hk); (try clear hi)) | ((with_reducible refine gate_dst (N := 18) rfl ?_); refine box_event ?hg (N := 18) ?hd (cs := #[.int .i64 0, .int .u32 0, .int .u32 0, .int .u32 0, .int .u32 0]) (t := 48) ?hr ?_; (case hd => rfl); (case hg => rfl); (case hr => first | (go_simp; done) | (go_simp; rfl)); intro gb235 hg w39 hbox hb; have n0_ := Aside0.mk (Kd.R_below (by (with_reducible repeat (first | apply Kd.R_alloc | apply Kd.R_drewN | apply Kd.R_drew)); exact HO_17.out) hb); have n1_ := Aside0.mk (below_step (by repeat (first | (with_reducible first | exact HB.out | apply below_alloc | apply pw_below_drewN | apply below_drew1) | exact HB.out)) hb); have n2_ := Aside0.mk (hbox); have n3_ := Aside0.mk ((by rw [hg]; exact (below_size (by repeat (first | (with_reducible first | exact HB.out | apply below_alloc | apply pw_below_drewN | apply below_drew1) | exact HB.out))) : w.heap.size ≤ gb235)); have n4_ := Aside0.mk ((by rw [hg]; exact (below_size (by repeat (first | (with_reducible first | exact HB.out | apply below_alloc | apply pw_below_drewN | apply below_drew1) | exact HB.out))) : w.heap.size ≤ gb235)); clear HO_17; clear HB; have HO_17 := n0_; have HB := n1_; have BK235 := n2_; have GW235 := n3_; have GE235 := n4_; clear n0_ n1_ n2_ n3_ n4_; clear hb hbox hg; have hcz40_0 : w39.cell? ⟨gb235, 0, none⟩ = some (.int .i64 0) := (blk_cell BK235.out 0).trans rfl; have hcz40_1 : w39.cell? ⟨gb235, 1, none⟩ = some (.int .u32 0) := (blk_cell BK235.out 1).trans rfl; have hcz40_2 : w39.cell? ⟨gb235, 2, none⟩ = some (.int .u32 0) := (blk_cell BK235.out 2).trans rfl; have hcz40_3 : w39.cell? ⟨gb235, 3, none⟩ = some (.int .u32 0) := (blk_cell BK235.out 3).trans rfl; have hcz40_4 : w39.cell? ⟨gb235, 4, none⟩ = some (.int .u32 0) := (blk_cell BK235.out 4).trans rfl; have hfz40_0 := blk_frozen BK235.out 0; have hfz40_1 := blk_frozen BK235.out 1; have hfz40_2 := blk_frozen BK235.out 2; have hfz40_3 := blk_frozen BK235.out 3; have hfz40_4 := blk_frozen BK235.out 4) | (go_at_call 27; (with_reducible refine (corrallaw9_map3.calls a4 t236 _ A35.out).mono ?_); rintro e w' ⟨rfl, ⟨nd, rfl⟩⟩; (try first | exact ⟨rfl, _, World.drewN_drewN _ _ _⟩ | exact ⟨rfl, _, Eq.trans (World.drewN_drewN _ _ _) (congrArg (World.drewN _) (Nat.add_assoc _ _ _))⟩))))
                (try simp only [Act.put, List.setIfInBounds_toArray, List.set_cons_zero, List.set_cons_succ])
                go_cut [20] (fun v20 wc => ∃ (kq : Nat) (x20_35 : Bool), v20 = .bool x20_35 ∧ Aside0 (corrallaw9_WalkPages.j2 kq a0 x1_9 a2 a4 true x20_35 t230 t231 t232 t233 t234 = some r) ∧ Aside0 (kq ≤ kj18) ∧ Aside0 (wc.heap[gb235]? = some (.cells #[.int .i64 t230, .int .u32 t231, .int .u32 t232, .int .u32 t233, .int .u32 t234] 48 (0, 0))) ∧ Aside0 (Below w.heap.size w wc))
                case first =>
                  have H := HC36.out
                  clear HC36
                  by_cases c41 : (Go.bits .and .u32 (Go.bits .or .u32 (Go.bits .or .u32 (Go.bits .or .u32 (Go.bits .and .u32 a3 62) 1) 64) 128) 16) = 0
                  · rw [if_pos c41] at H
                    have c41b0 : ((Go.bits .and .u32 (Go.bits .or .u32 (Go.bits .or .u32 (Go.bits .or .u32 (Go.bits .and .u32 a3 62) 1) 64) 128) 16) == 0) = true := beq_iff_eq.mpr c41
                    have c41b1 : ((Go.bits .and .u32 (Go.bits .or .u32 (Go.bits .or .u32 (Go.bits .or .u32 (Go.bits .and .u32 a3 62) 1) 64) 128) 16) != 0) = false := bne_eq_false_iff_eq.mpr c41
                    clear c41
                    (first | rw [c41b0] | (simp only [i64_w, i32_w]; rw [c41b0]) | skip)
                    have H' := Aside0.mk H
                    clear H
                    go_wp2
                    repeat (go_quiet (fail); try go_wp2)
                    go_meet
                    case rel => exact ⟨_, (false), (by first | rfl | (simp; done) | (simp [*]; done)), H', ⟨by have := HJ9.out; have := HJ18.out; first | omega | exact Nat.le_refl _⟩, ⟨by (with_reducible repeat (first | refine blk_drewN ?_ _ | refine blk_drew ?_ | refine blk_alloc ?_ _)); refine blk_put (cs := #[.int .i64 t230, .int .u32 t231, .int .u32 t232, .int .u32 t233, .int .u32 0]) ?_ 4 _ rfl; (with_reducible repeat (first | refine blk_drewN ?_ _ | refine blk_drew ?_ | refine blk_alloc ?_ _)); refine blk_put (cs := #[.int .i64 t230, .int .u32 t231, .int .u32 t232, .int .u32 0, .int .u32 0]) ?_ 3 _ rfl; (with_reducible repeat (first | refine blk_drewN ?_ _ | refine blk_drew ?_ | refine blk_alloc ?_ _)); refine blk_put (cs := #[.int .i64 t230, .int .u32 t231, .int .u32 0, .int .u32 0, .int .u32 0]) ?_ 2 _ rfl; (with_reducible repeat (first | refine blk_drewN ?_ _ | refine blk_drew ?_ | refine blk_alloc ?_ _)); refine blk_put (cs := #[.int .i64 t230, .int .u32 0, .int .u32 0, .int .u32 0, .int .u32 0]) ?_ 1 _ rfl; (with_reducible repeat (first | refine blk_drewN ?_ _ | refine blk_drew ?_ | refine blk_alloc ?_ _)); refine blk_put (cs := #[.int .i64 0, .int .u32 0, .int .u32 0, .int .u32 0, .int .u32 0]) ?_ 0 _ rfl; (with_reducible repeat (first | refine blk_drewN ?_ _ | refine blk_drew ?_ | refine blk_alloc ?_ _)); exact BK235.out⟩, ⟨by repeat (first | (with_reducible first | exact HB.out | apply below_alloc | apply pw_below_drewN | apply below_drew1 | refine below_set ?_ GE235.out) | exact HB.out)⟩⟩
                  · rw [if_neg c41] at H
                    have c41b0 : ((Go.bits .and .u32 (Go.bits .or .u32 (Go.bits .or .u32 (Go.bits .or .u32 (Go.bits .and .u32 a3 62) 1) 64) 128) 16) == 0) = false := beq_eq_false_iff_ne.mpr c41
                    have c41b1 : ((Go.bits .and .u32 (Go.bits .or .u32 (Go.bits .or .u32 (Go.bits .or .u32 (Go.bits .and .u32 a3 62) 1) 64) 128) 16) != 0) = true := bne_iff_ne.mpr c41
                    (first | rw [c41b0] | (simp only [i64_w, i32_w]; rw [c41b0]) | skip)
                    by_cases c42 : (Go.bits .and .u32 (Go.bits .or .u32 (Go.bits .or .u32 (Go.bits .or .u32 (Go.bits .and .u32 a3 62) 1) 64) 128) t236) = 0
                    · rw [if_pos c42] at H
                      have c42b0 : ((Go.bits .and .u32 (Go.bits .or .u32 (Go.bits .or .u32 (Go.bits .or .u32 (Go.bits .and .u32 a3 62) 1) 64) 128) t236) == 0) = true := beq_iff_eq.mpr c42
                      have c42b1 : ((Go.bits .and .u32 (Go.bits .or .u32 (Go.bits .or .u32 (Go.bits .or .u32 (Go.bits .and .u32 a3 62) 1) 64) 128) t236) != 0) = false := bne_eq_false_iff_eq.mpr c42
                      clear c42
                      have H' := Aside0.mk H
                      clear H
                      go_wp2
                      repeat (go_quiet (fail); try go_wp2)
                      go_meet
                      case rel => exact ⟨_, (false), (by first | rfl | (simp; done) | (simp [*]; done)), H', ⟨by have := HJ9.out; have := HJ18.out; first | omega | exact Nat.le_refl _⟩, ⟨by (with_reducible repeat (first | refine blk_drewN ?_ _ | refine blk_drew ?_ | refine blk_alloc ?_ _)); refine blk_put (cs := #[.int .i64 t230, .int .u32 t231, .int .u32 t232, .int .u32 t233, .int .u32 0]) ?_ 4 _ rfl; (with_reducible repeat (first | refine blk_drewN ?_ _ | refine blk_drew ?_ | refine blk_alloc ?_ _)); refine blk_put (cs := #[.int .i64 t230, .int .u32 t231, .int .u32 t232, .int .u32 0, .int .u32 0]) ?_ 3 _ rfl; (with_reducible repeat (first | refine blk_drewN ?_ _ | refine blk_drew ?_ | refine blk_alloc ?_ _)); refine blk_put (cs := #[.int .i64 t230, .int .u32 t231, .int .u32 0, .int .u32 0, .int .u32 0]) ?_ 2 _ rfl; (with_reducible repeat (first | refine blk_drewN ?_ _ | refine blk_drew ?_ | refine blk_alloc ?_ _)); refine blk_put (cs := #[.int .i64 t230, .int .u32 0, .int .u32 0, .int .u32 0, .int .u32 0]) ?_ 1 _ rfl; (with_reducible repeat (first | refine blk_drewN ?_ _ | refine blk_drew ?_ | refine blk_alloc ?_ _)); refine blk_put (cs := #[.int .i64 0, .int .u32 0, .int .u32 0, .int .u32 0, .int .u32 0]) ?_ 0 _ rfl; (with_reducible repeat (first | refine blk_drewN ?_ _ | refine blk_drew ?_ | refine blk_alloc ?_ _)); exact BK235.out⟩, ⟨by repeat (first | (with_reducible first | exact HB.out | apply below_alloc | apply pw_below_drewN | apply below_drew1 | refine below_set ?_ GE235.out) | exact HB.out)⟩⟩
                    · rw [if_neg c42] at H
                      have c42b0 : ((Go.bits .and .u32 (Go.bits .or .u32 (Go.bits .or .u32 (Go.bits .or .u32 (Go.bits .and .u32 a3 62) 1) 64) 128) t236) == 0) = false := beq_eq_false_iff_ne.mpr c42
                      have c42b1 : ((Go.bits .and .u32 (Go.bits .or .u32 (Go.bits .or .u32 (Go.bits .or .u32 (Go.bits .and .u32 a3 62) 1) 64) 128) t236) != 0) = true := bne_iff_ne.mpr c42
                      by_cases c43 : (Go.bits .and .u32 (Go.bits .or .u32 (Go.bits .or .u32 (Go.bits .or .u32 (Go.bits .and .u32 a3 62) 1) 64) 128) 4) = 0
                      · rw [if_pos c43] at H
                        have c43b0 : ((Go.bits .and .u32 (Go.bits .or .u32 (Go.bits .or .u32 (Go.bits .or .u32 (Go.bits .and .u32 a3 62) 1) 64) 128) 4) == 0) = true := beq_iff_eq.mpr c43
                        have c43b1 : ((Go.bits .and .u32 (Go.bits .or .u32 (Go.bits .or .u32 (Go.bits .or .u32 (Go.bits .and .u32 a3 62) 1) 64) 128) 4) != 0) = false := bne_eq_false_iff_eq.mpr c43
                        clear c43
                        have H' := Aside0.mk H
                        clear H
                        go_wp2
                        repeat (go_quiet (fail); try go_wp2)
                        go_meet
                        case rel => exact ⟨_, (!false), (by first | rfl | (simp; done) | (simp [*]; done)), H', ⟨by have := HJ9.out; have := HJ18.out; first | omega | exact Nat.le_refl _⟩, ⟨by (with_reducible repeat (first | refine blk_drewN ?_ _ | refine blk_drew ?_ | refine blk_alloc ?_ _)); refine blk_put (cs := #[.int .i64 t230, .int .u32 t231, .int .u32 t232, .int .u32 t233, .int .u32 0]) ?_ 4 _ rfl; (with_reducible repeat (first | refine blk_drewN ?_ _ | refine blk_drew ?_ | refine blk_alloc ?_ _)); refine blk_put (cs := #[.int .i64 t230, .int .u32 t231, .int .u32 t232, .int .u32 0, .int .u32 0]) ?_ 3 _ rfl; (with_reducible repeat (first | refine blk_drewN ?_ _ | refine blk_drew ?_ | refine blk_alloc ?_ _)); refine blk_put (cs := #[.int .i64 t230, .int .u32 t231, .int .u32 0, .int .u32 0, .int .u32 0]) ?_ 2 _ rfl; (with_reducible repeat (first | refine blk_drewN ?_ _ | refine blk_drew ?_ | refine blk_alloc ?_ _)); refine blk_put (cs := #[.int .i64 t230, .int .u32 0, .int .u32 0, .int .u32 0, .int .u32 0]) ?_ 1 _ rfl; (with_reducible repeat (first | refine blk_drewN ?_ _ | refine blk_drew ?_ | refine blk_alloc ?_ _)); refine blk_put (cs := #[.int .i64 0, .int .u32 0, .int .u32 0, .int .u32 0, .int .u32 0]) ?_ 0 _ rfl; (with_reducible repeat (first | refine blk_drewN ?_ _ | refine blk_drew ?_ | refine blk_alloc ?_ _)); exact BK235.out⟩, ⟨by repeat (first | (with_reducible first | exact HB.out | apply below_alloc | apply pw_below_drewN | apply below_drew1 | refine below_set ?_ GE235.out) | exact HB.out)⟩⟩
                      · rw [if_neg c43] at H
                        have c43b0 : ((Go.bits .and .u32 (Go.bits .or .u32 (Go.bits .or .u32 (Go.bits .or .u32 (Go.bits .and .u32 a3 62) 1) 64) 128) 4) == 0) = false := beq_eq_false_iff_ne.mpr c43
                        have c43b1 : ((Go.bits .and .u32 (Go.bits .or .u32 (Go.bits .or .u32 (Go.bits .or .u32 (Go.bits .and .u32 a3 62) 1) 64) 128) 4) != 0) = true := bne_iff_ne.mpr c43
                        have H' := Aside0.mk H
                        clear H
                        go_wp2
                        repeat (go_quiet (fail); try go_wp2)
                        go_meet
                        case rel => exact ⟨_, (!((Go.bits .and .u32 (Go.bits .or .u32 (Go.bits .or .u32 (Go.bits .or .u32 (Go.bits .and .u32 a3 62) 1) 64) 128) 2) == 0)), (by first | rfl | (simp; done) | (simp [*]; done)), H', ⟨by have := HJ9.out; have := HJ18.out; first | omega | exact Nat.le_refl _⟩, ⟨by (with_reducible repeat (first | refine blk_drewN ?_ _ | refine blk_drew ?_ | refine blk_alloc ?_ _)); refine blk_put (cs := #[.int .i64 t230, .int .u32 t231, .int .u32 t232, .int .u32 t233, .int .u32 0]) ?_ 4 _ rfl; (with_reducible repeat (first | refine blk_drewN ?_ _ | refine blk_drew ?_ | refine blk_alloc ?_ _)); refine blk_put (cs := #[.int .i64 t230, .int .u32 t231, .int .u32 t232, .int .u32 0, .int .u32 0]) ?_ 3 _ rfl; (with_reducible repeat (first | refine blk_drewN ?_ _ | refine blk_drew ?_ | refine blk_alloc ?_ _)); refine blk_put (cs := #[.int .i64 t230, .int .u32 t231, .int .u32 0, .int .u32 0, .int .u32 0]) ?_ 2 _ rfl; (with_reducible repeat (first | refine blk_drewN ?_ _ | refine blk_drew ?_ | refine blk_alloc ?_ _)); refine blk_put (cs := #[.int .i64 t230, .int .u32 0, .int .u32 0, .int .u32 0, .int .u32 0]) ?_ 1 _ rfl; (with_reducible repeat (first | refine blk_drewN ?_ _ | refine blk_drew ?_ | refine blk_alloc ?_ _)); refine blk_put (cs := #[.int .i64 0, .int .u32 0, .int .u32 0, .int .u32 0, .int .u32 0]) ?_ 0 _ rfl; (with_reducible repeat (first | refine blk_drewN ?_ _ | refine blk_drew ?_ | refine blk_alloc ?_ _)); exact BK235.out⟩, ⟨by repeat (first | (with_reducible first | exact HB.out | apply below_alloc | apply pw_below_drewN | apply below_drew1 | refine below_set ?_ GE235.out) | exact HB.out)⟩⟩
                case rest =>
                  clear HC36
                  try clear c1
                  try clear c2
                  try clear p2
                  try clear p3
                  try clear c4
                  try clear c5
                  try clear c8
                  try clear c9
                  try clear c12
                  try clear c14
                  try clear c14b0
                  try clear c14b1
                  try clear c26
                  try clear c41
                  try clear c41b0
                  try clear c41b1
                  try clear c42
                  try clear c42b0
                  try clear c42b1
                  try clear c43
                  try clear c43b0
                  try clear c43b1
                  try clear hcz40_0
                  try clear hcz40_1
                  try clear hcz40_2
                  try clear hcz40_3
                  try clear hcz40_4
                  try clear hfz40_0
                  try clear hfz40_1
                  try clear hfz40_2
                  try clear hfz40_3
                  try clear hfz40_4
                  try clear p2
                  obtain ⟨kq, x20_35, rfl, HA, HJ35, BK235, HB⟩ := hcut
                  cases kq with
                  | zero => exact absurd HA.out (by simp [corrallaw9_WalkPages.j2])
                  | succ kj35 =>
                    have H := HA.out
                    clear HA
                    simp only [corrallaw9_WalkPages.j2] at H
                    by_cases c44 : x20_35 = true
                    · subst c44
                      have H1 : (if a2 = true then (if true = true then (if t230 = 1 then (some (t231 == (Go.bits .or .u32 ((x1_9 * 4096) % 4294967296) (Go.bits .and .u32 a0 4194303)))) else (some false)) else (some false)) else (if true = true then (if t230 = 1 then (some (t231 == (Go.bits .or .u32 ((x1_9 * 4096) % 4294967296) (Go.bits .and .u32 a0 4095)))) else (some false)) else (some false))) = some r := by rw [if_pos rfl] at H; exact H
                      clear H
                      have H := H1
                      clear H1
                      by_cases c45 : a2 = true
                      · subst c45
                        have H1 : (if true = true then (if t230 = 1 then (some (t231 == (Go.bits .or .u32 ((x1_9 * 4096) % 4294967296) (Go.bits .and .u32 a0 4194303)))) else (some false)) else (some false)) = some r := by rw [if_pos rfl] at H; exact H
                        clear H
                        have H := H1
                        clear H1
                        replace H : (if t230 = 1 then (some (t231 == (Go.bits .or .u32 ((x1_9 * 4096) % 4294967296) (Go.bits .and .u32 a0 4194303)))) else (some false)) = some r := by first | (rw [if_pos rfl] at H; exact H) | (rw [if_pos trivial] at H; exact H)
                        by_cases c46 : t230 = 1
                        · rw [if_pos c46] at H
                          have c46b0 : (t230 == 1) = true := beq_iff_eq.mpr c46
                          have c46b1 : (t230 != 1) = false := bne_eq_false_iff_eq.mpr c46
                          clear c46
                          clear HRT
                          obtain rfl := Option.some.inj H
                          have hcz47_0 : wc.cell? ⟨gb235, 0, none⟩ = some (.int .i64 t230) := (blk_cell BK235.out 0).trans rfl
                          have hcz47_1 : wc.cell? ⟨gb235, 1, none⟩ = some (.int .u32 t231) := (blk_cell BK235.out 1).trans rfl
                          have hcz47_2 : wc.cell? ⟨gb235, 2, none⟩ = some (.int .u32 t232) := (blk_cell BK235.out 2).trans rfl
                          have hcz47_3 : wc.cell? ⟨gb235, 3, none⟩ = some (.int .u32 t233) := (blk_cell BK235.out 3).trans rfl
                          have hcz47_4 : wc.cell? ⟨gb235, 4, none⟩ = some (.int .u32 t234) := (blk_cell BK235.out 4).trans rfl
                          have hfz47_0 := blk_frozen BK235.out 0
                          have hfz47_1 := blk_frozen BK235.out 1
                          have hfz47_2 := blk_frozen BK235.out 2
                          have hfz47_3 := blk_frozen BK235.out 3
                          have hfz47_4 := blk_frozen BK235.out 4
                          go_wp2
                          repeat (go_quiet (fail); try go_wp2)
                          go_ret
                          exact ⟨by first | rfl | (simp [errW_none, errW_some] <;> rfl) | (simp [*, errW_none, errW_some] <;> rfl), by repeat (first | (with_reducible first | exact HB.out | apply below_alloc | apply pw_below_drewN | apply below_drew1 | refine below_set ?_ GE235.out) | exact HB.out)⟩
                        · rw [if_neg c46] at H
                          have c46b0 : (t230 == 1) = false := beq_eq_false_iff_ne.mpr c46
                          have c46b1 : (t230 != 1) = true := bne_iff_ne.mpr c46
                          exact absurd (Option.some.inj H) (by rw [HRT.out]; decide)
                      · replace c45 := Bool.eq_false_iff.mpr c45
                        subst c45
                        have H1 : (if true = true then (if t230 = 1 then (some (t231 == (Go.bits .or .u32 ((x1_9 * 4096) % 4294967296) (Go.bits .and .u32 a0 4095)))) else (some false)) else (some false)) = some r := by rw [if_neg (show ¬ (false = true) by decide)] at H; exact H
                        clear H
                        have H := H1
                        clear H1
                        replace H : (if t230 = 1 then (some (t231 == (Go.bits .or .u32 ((x1_9 * 4096) % 4294967296) (Go.bits .and .u32 a0 4095)))) else (some false)) = some r := by first | (rw [if_pos rfl] at H; exact H) | (rw [if_pos trivial] at H; exact H)
                        by_cases c48 : t230 = 1
                        · rw [if_pos c48] at H
                          have c48b0 : (t230 == 1) = true := beq_iff_eq.mpr c48
                          have c48b1 : (t230 != 1) = false := bne_eq_false_iff_eq.mpr c48
                          clear c48
                          clear HRT
                          obtain rfl := Option.some.inj H
                          have hcz49_0 : wc.cell? ⟨gb235, 0, none⟩ = some (.int .i64 t230) := (blk_cell BK235.out 0).trans rfl
                          have hcz49_1 : wc.cell? ⟨gb235, 1, none⟩ = some (.int .u32 t231) := (blk_cell BK235.out 1).trans rfl
                          have hcz49_2 : wc.cell? ⟨gb235, 2, none⟩ = some (.int .u32 t232) := (blk_cell BK235.out 2).trans rfl
                          have hcz49_3 : wc.cell? ⟨gb235, 3, none⟩ = some (.int .u32 t233) := (blk_cell BK235.out 3).trans rfl
                          have hcz49_4 : wc.cell? ⟨gb235, 4, none⟩ = some (.int .u32 t234) := (blk_cell BK235.out 4).trans rfl
                          have hfz49_0 := blk_frozen BK235.out 0
                          have hfz49_1 := blk_frozen BK235.out 1
                          have hfz49_2 := blk_frozen BK235.out 2
                          have hfz49_3 := blk_frozen BK235.out 3
                          have hfz49_4 := blk_frozen BK235.out 4
                          go_wp2
                          repeat (go_quiet (fail); try go_wp2)
                          go_ret
                          exact ⟨by first | rfl | (simp [errW_none, errW_some] <;> rfl) | (simp [*, errW_none, errW_some] <;> rfl), by repeat (first | (with_reducible first | exact HB.out | apply below_alloc | apply pw_below_drewN | apply below_drew1 | refine below_set ?_ GE235.out) | exact HB.out)⟩
                        · rw [if_neg c48] at H
                          have c48b0 : (t230 == 1) = false := beq_eq_false_iff_ne.mpr c48
                          have c48b1 : (t230 != 1) = true := bne_iff_ne.mpr c48
                          exact absurd (Option.some.inj H) (by rw [HRT.out]; decide)
                    · replace c44 := Bool.eq_false_iff.mpr c44
                      subst c44
                      have H1 : (if true = true then (if t230 = 2 then ((pte_Cause.f a4 true).bind fun t237 => (some (t234 == t237))) else (some false)) else (some false)) = some r := by rw [if_neg (show ¬ (false = true) by decide)] at H; exact H
                      clear H
                      have H := H1
                      clear H1
                      replace H : (if t230 = 2 then ((pte_Cause.f a4 true).bind fun t237 => (some (t234 == t237))) else (some false)) = some r := by first | (rw [if_pos rfl] at H; exact H) | (rw [if_pos trivial] at H; exact H)
                      by_cases c50 : t230 = 2
                      · rw [if_pos c50] at H
                        have c50b0 : (t230 == 2) = true := beq_iff_eq.mpr c50
                        have c50b1 : (t230 != 2) = false := bne_eq_false_iff_eq.mpr c50
                        clear c50
                        replace H := Option.bind_eq_some_iff.mp H
                        obtain ⟨t237, A510, H⟩ := H
                        replace H : (some (t234 == t237)) = some r := H
                        have A51 := Aside0.mk A510
                        clear A510
                        clear HRT
                        obtain rfl := Option.some.inj H
                        have hcz52_0 : wc.cell? ⟨gb235, 0, none⟩ = some (.int .i64 t230) := (blk_cell BK235.out 0).trans rfl
                        have hcz52_1 : wc.cell? ⟨gb235, 1, none⟩ = some (.int .u32 t231) := (blk_cell BK235.out 1).trans rfl
                        have hcz52_2 : wc.cell? ⟨gb235, 2, none⟩ = some (.int .u32 t232) := (blk_cell BK235.out 2).trans rfl
                        have hcz52_3 : wc.cell? ⟨gb235, 3, none⟩ = some (.int .u32 t233) := (blk_cell BK235.out 3).trans rfl
                        have hcz52_4 : wc.cell? ⟨gb235, 4, none⟩ = some (.int .u32 t234) := (blk_cell BK235.out 4).trans rfl
                        have hfz52_0 := blk_frozen BK235.out 0
                        have hfz52_1 := blk_frozen BK235.out 1
                        have hfz52_2 := blk_frozen BK235.out 2
                        have hfz52_3 := blk_frozen BK235.out 3
                        have hfz52_4 := blk_frozen BK235.out 4
                        go_wp2_with (first | (go_at_call 25; (with_reducible refine (pte_Cause.calls a4 true t237 _ A51.out).mono ?_); rintro e w' ⟨rfl, ⟨nd, rfl⟩⟩; (try first | exact ⟨rfl, _, World.drewN_drewN _ _ _⟩ | exact ⟨rfl, _, Eq.trans (World.drewN_drewN _ _ _) (congrArg (World.drewN _) (Nat.add_assoc _ _ _))⟩)))
                        repeat (go_quiet (first | (go_at_call 25; (with_reducible refine (pte_Cause.calls a4 true t237 _ A51.out).mono ?_); rintro e w' ⟨rfl, ⟨nd, rfl⟩⟩; (try first | exact ⟨rfl, _, World.drewN_drewN _ _ _⟩ | exact ⟨rfl, _, Eq.trans (World.drewN_drewN _ _ _) (congrArg (World.drewN _) (Nat.add_assoc _ _ _))⟩))); try go_wp2_with (first | (go_at_call 25; (with_reducible refine (pte_Cause.calls a4 true t237 _ A51.out).mono ?_); rintro e w' ⟨rfl, ⟨nd, rfl⟩⟩; (try first | exact ⟨rfl, _, World.drewN_drewN _ _ _⟩ | exact ⟨rfl, _, Eq.trans (World.drewN_drewN _ _ _) (congrArg (World.drewN _) (Nat.add_assoc _ _ _))⟩))))
                        go_ret
                        exact ⟨by first | rfl | (simp [errW_none, errW_some] <;> rfl) | (simp [*, errW_none, errW_some] <;> rfl), by repeat (first | (with_reducible first | exact HB.out | apply below_alloc | apply pw_below_drewN | apply below_drew1 | refine below_set ?_ GE235.out) | exact HB.out)⟩
                      · rw [if_neg c50] at H
                        have c50b0 : (t230 == 2) = false := beq_eq_false_iff_ne.mpr c50
                        have c50b1 : (t230 != 2) = true := bne_iff_ne.mpr c50
                        exact absurd (Option.some.inj H) (by rw [HRT.out]; decide)
    · replace c9 := Bool.eq_false_iff.mpr c9
      subst c9
      have H1 : ((walk_Next.f k 2147483649 3 a0 a4 65536 ([] : List (S52))).bind fun bt210 => (if bt210.1 = 1 then (some (bt210.2.1 == a0)) else (some false))) = some r := by rw [if_neg (show ¬ (false = true) by decide)] at H; exact H
      clear H
      have H := H1
      clear H1
      replace H := Option.bind_eq_some_iff.mp H
      obtain ⟨⟨t210, t211, t212, t213, t214⟩, A530, H⟩ := H
      replace H : (if t210 = 1 then (some (t211 == a0)) else (some false)) = some r := H
      have A53 := Aside0.mk A530
      clear A530
      by_cases c54 : t210 = 1
      · rw [if_pos c54] at H
        have c54b0 : (t210 == 1) = true := beq_iff_eq.mpr c54
        have c54b1 : (t210 != 1) = false := bne_eq_false_iff_eq.mpr c54
        clear c54
        clear HRT
        obtain rfl := Option.some.inj H
        go_enter Try.func5, Try.ntmps5
        go_wp2_with (first | (go_at_call 19; (with_reducible refine (corrallaw9_first.calls k  true _ A7.out).mono ?_); rintro e w55 ⟨rfl, hb⟩; have n0_ := Aside0.mk (below_step (by repeat (first | (with_reducible first | exact HB.out | apply below_alloc | apply pw_below_drewN | apply below_drew1) | exact HB.out)) hb); clear HB; have HB := n0_; clear n0_; (try clear hb); (try clear hb2); (try clear hk); (try clear hi)) | (go_at_call 21; (refine (walk_Next.calls k 2147483649 3 a0 a4 65536 _ _ ([] : List (S52)) t210 t211 t212 t213 t214 _ ?side1 ?side2 A53.out).mono ?_); (case side1 => exact Kd.C_nil _ _); (case side2 => exact Nat.le_refl _); rintro e w56 ⟨rfl, hb⟩; have n0_ := Aside0.mk (below_step (by repeat (first | (with_reducible first | exact HB.out | apply below_alloc | apply pw_below_drewN | apply below_drew1) | exact HB.out)) hb); clear HB; have HB := n0_; clear n0_; (try clear hb); (try clear hb2); (try clear hk); (try clear hi)) | ((with_reducible refine gate_dst (N := 15) rfl ?_); refine box_event ?hg (N := 15) ?hd (cs := #[.int .i64 0, .int .u32 0, .int .u32 0, .int .u32 0, .int .u32 0]) (t := 48) ?hr ?_; (case hd => rfl); (case hg => rfl); (case hr => first | (go_simp; done) | (go_simp; rfl)); intro gb215 hg w57 hbox hb; have n0_ := Aside0.mk (below_step (by repeat (first | (with_reducible first | exact HB.out | apply below_alloc | apply pw_below_drewN | apply below_drew1) | exact HB.out)) hb); have n1_ := Aside0.mk (hbox); have n2_ := Aside0.mk ((by rw [hg]; exact (below_size (by repeat (first | (with_reducible first | exact HB.out | apply below_alloc | apply pw_below_drewN | apply below_drew1) | exact HB.out))) : w.heap.size ≤ gb215)); have n3_ := Aside0.mk ((by rw [hg]; exact (below_size (by repeat (first | (with_reducible first | exact HB.out | apply below_alloc | apply pw_below_drewN | apply below_drew1) | exact HB.out))) : w.heap.size ≤ gb215)); clear HB; have HB := n0_; have BK215 := n1_; have GW215 := n2_; have GE215 := n3_; clear n0_ n1_ n2_ n3_; clear hb hbox hg; have hcz58_0 : w57.cell? ⟨gb215, 0, none⟩ = some (.int .i64 0) := (blk_cell BK215.out 0).trans rfl; have hcz58_1 : w57.cell? ⟨gb215, 1, none⟩ = some (.int .u32 0) := (blk_cell BK215.out 1).trans rfl; have hcz58_2 : w57.cell? ⟨gb215, 2, none⟩ = some (.int .u32 0) := (blk_cell BK215.out 2).trans rfl; have hcz58_3 : w57.cell? ⟨gb215, 3, none⟩ = some (.int .u32 0) := (blk_cell BK215.out 3).trans rfl; have hcz58_4 : w57.cell? ⟨gb215, 4, none⟩ = some (.int .u32 0) := (blk_cell BK215.out 4).trans rfl; have hfz58_0 := blk_frozen BK215.out 0; have hfz58_1 := blk_frozen BK215.out 1; have hfz58_2 := blk_frozen BK215.out 2; have hfz58_3 := blk_frozen BK215.out 3; have hfz58_4 := blk_frozen BK215.out 4))
        repeat (go_quiet (first | (go_at_call 19; (with_reducible refine (corrallaw9_first.calls k  true _ A7.out).mono ?_); rintro e w55 ⟨rfl, hb⟩; have n0_ := Aside0.mk (below_step (by repeat (first | (with_reducible first | exact HB.out | apply below_alloc | apply pw_below_drewN | apply below_drew1) | exact HB.out)) hb); clear HB; have HB := n0_; clear n0_; (try clear hb); (try clear hb2); (try clear hk); (try clear hi)) | (go_at_call 21; (refine (walk_Next.calls k 2147483649 3 a0 a4 65536 _ _ ([] : List (S52)) t210 t211 t212 t213 t214 _ ?side1 ?side2 A53.out).mono ?_); (case side1 => exact Kd.C_nil _ _); (case side2 => exact Nat.le_refl _); rintro e w56 ⟨rfl, hb⟩; have n0_ := Aside0.mk (below_step (by repeat (first | (with_reducible first | exact HB.out | apply below_alloc | apply pw_below_drewN | apply below_drew1) | exact HB.out)) hb); clear HB; have HB := n0_; clear n0_; (try clear hb); (try clear hb2); (try clear hk); (try clear hi)) | ((with_reducible refine gate_dst (N := 15) rfl ?_); refine box_event ?hg (N := 15) ?hd (cs := #[.int .i64 0, .int .u32 0, .int .u32 0, .int .u32 0, .int .u32 0]) (t := 48) ?hr ?_; (case hd => rfl); (case hg => rfl); (case hr => first | (go_simp; done) | (go_simp; rfl)); intro gb215 hg w57 hbox hb; have n0_ := Aside0.mk (below_step (by repeat (first | (with_reducible first | exact HB.out | apply below_alloc | apply pw_below_drewN | apply below_drew1) | exact HB.out)) hb); have n1_ := Aside0.mk (hbox); have n2_ := Aside0.mk ((by rw [hg]; exact (below_size (by repeat (first | (with_reducible first | exact HB.out | apply below_alloc | apply pw_below_drewN | apply below_drew1) | exact HB.out))) : w.heap.size ≤ gb215)); have n3_ := Aside0.mk ((by rw [hg]; exact (below_size (by repeat (first | (with_reducible first | exact HB.out | apply below_alloc | apply pw_below_drewN | apply below_drew1) | exact HB.out))) : w.heap.size ≤ gb215)); clear HB; have HB := n0_; have BK215 := n1_; have GW215 := n2_; have GE215 := n3_; clear n0_ n1_ n2_ n3_; clear hb hbox hg; have hcz58_0 : w57.cell? ⟨gb215, 0, none⟩ = some (.int .i64 0) := (blk_cell BK215.out 0).trans rfl; have hcz58_1 : w57.cell? ⟨gb215, 1, none⟩ = some (.int .u32 0) := (blk_cell BK215.out 1).trans rfl; have hcz58_2 : w57.cell? ⟨gb215, 2, none⟩ = some (.int .u32 0) := (blk_cell BK215.out 2).trans rfl; have hcz58_3 : w57.cell? ⟨gb215, 3, none⟩ = some (.int .u32 0) := (blk_cell BK215.out 3).trans rfl; have hcz58_4 : w57.cell? ⟨gb215, 4, none⟩ = some (.int .u32 0) := (blk_cell BK215.out 4).trans rfl; have hfz58_0 := blk_frozen BK215.out 0; have hfz58_1 := blk_frozen BK215.out 1; have hfz58_2 := blk_frozen BK215.out 2; have hfz58_3 := blk_frozen BK215.out 3; have hfz58_4 := blk_frozen BK215.out 4)); try go_wp2_with (first | (go_at_call 19; (with_reducible refine (corrallaw9_first.calls k  true _ A7.out).mono ?_); rintro e w55 ⟨rfl, hb⟩; have n0_ := Aside0.mk (below_step (by repeat (first | (with_reducible first | exact HB.out | apply below_alloc | apply pw_below_drewN | apply below_drew1) | exact HB.out)) hb); clear HB; have HB := n0_; clear n0_; (try clear hb); (try clear hb2); (try clear hk); (try clear hi)) | (go_at_call 21; (refine (walk_Next.calls k 2147483649 3 a0 a4 65536 _ _ ([] : List (S52)) t210 t211 t212 t213 t214 _ ?side1 ?side2 A53.out).mono ?_); (case side1 => exact Kd.C_nil _ _); (case side2 => exact Nat.le_refl _); rintro e w56 ⟨rfl, hb⟩; have n0_ := Aside0.mk (below_step (by repeat (first | (with_reducible first | exact HB.out | apply below_alloc | apply pw_below_drewN | apply below_drew1) | exact HB.out)) hb); clear HB; have HB := n0_; clear n0_; (try clear hb); (try clear hb2); (try clear hk); (try clear hi)) | ((with_reducible refine gate_dst (N := 15) rfl ?_); refine box_event ?hg (N := 15) ?hd (cs := #[.int .i64 0, .int .u32 0, .int .u32 0, .int .u32 0, .int .u32 0]) (t := 48) ?hr ?_; (case hd => rfl); (case hg => rfl); (case hr => first | (go_simp; done) | (go_simp; rfl)); intro gb215 hg w57 hbox hb; have n0_ := Aside0.mk (below_step (by repeat (first | (with_reducible first | exact HB.out | apply below_alloc | apply pw_below_drewN | apply below_drew1) | exact HB.out)) hb); have n1_ := Aside0.mk (hbox); have n2_ := Aside0.mk ((by rw [hg]; exact (below_size (by repeat (first | (with_reducible first | exact HB.out | apply below_alloc | apply pw_below_drewN | apply below_drew1) | exact HB.out))) : w.heap.size ≤ gb215)); have n3_ := Aside0.mk ((by rw [hg]; exact (below_size (by repeat (first | (with_reducible first | exact HB.out | apply below_alloc | apply pw_below_drewN | apply below_drew1) | exact HB.out))) : w.heap.size ≤ gb215)); clear HB; have HB := n0_; have BK215 := n1_; have GW215 := n2_; have GE215 := n3_; clear n0_ n1_ n2_ n3_; clear hb hbox hg; have hcz58_0 : w57.cell? ⟨gb215, 0, none⟩ = some (.int .i64 0) := (blk_cell BK215.out 0).trans rfl; have hcz58_1 : w57.cell? ⟨gb215, 1, none⟩ = some (.int .u32 0) := (blk_cell BK215.out 1).trans rfl; have hcz58_2 : w57.cell? ⟨gb215, 2, none⟩ = some (.int .u32 0) := (blk_cell BK215.out 2).trans rfl; have hcz58_3 : w57.cell? ⟨gb215, 3, none⟩ = some (.int .u32 0) := (blk_cell BK215.out 3).trans rfl; have hcz58_4 : w57.cell? ⟨gb215, 4, none⟩ = some (.int .u32 0) := (blk_cell BK215.out 4).trans rfl; have hfz58_0 := blk_frozen BK215.out 0; have hfz58_1 := blk_frozen BK215.out 1; have hfz58_2 := blk_frozen BK215.out 2; have hfz58_3 := blk_frozen BK215.out 3; have hfz58_4 := blk_frozen BK215.out 4)))
        go_ret
        exact ⟨by first | rfl | (simp [errW_none, errW_some] <;> rfl) | (simp [*, errW_none, errW_some] <;> rfl), by repeat (first | (with_reducible first | exact HB.out | apply below_alloc | apply pw_below_drewN | apply below_drew1 | refine below_set ?_ GE215.out) | exact HB.out)⟩
      · rw [if_neg c54] at H
        have c54b0 : (t210 == 1) = false := beq_eq_false_iff_ne.mpr c54
        have c54b1 : (t210 != 1) = true := bne_iff_ne.mpr c54
        exact absurd (Option.some.inj H) (by rw [HRT.out]; decide)
  · replace c8 := Bool.eq_false_iff.mpr c8
    subst c8
    have H1 : (some false) = some r := by rw [if_neg (show ¬ (false = true) by decide)] at H; exact H
    clear H
    have H := H1
    clear H1
    exact absurd (Option.some.inj H) (by rw [HRT.out]; decide)

/-- THE ONE PURE STATEMENT of corrallaw9_WalkPages: yours. -/
def corrallaw9_WalkPages.Pure : Prop := ∀ (a0 : Int) (a1 : Int) (a2 : Bool) (a3 : Int) (a4 : Int) (a5 : Bool), (Lit.int .u32 a0).wf = true → (Lit.int .u32 a1).wf = true → (Lit.int .u32 a3).wf = true → (Lit.int .i64 a4).wf = true → ∃ k, corrallaw9_WalkPages.f k a0 a1 a2 a3 a4 a5 = some true
theorem corrallaw9_WalkPages.walk (P : corrallaw9_WalkPages.Pure) (a0 : Int) (a1 : Int) (a2 : Bool) (a3 : Int) (a4 : Int) (a5 : Bool) (w : World) (w0 : (Lit.int .u32 a0).wf = true) (w1 : (Lit.int .u32 a1).wf = true) (w3 : (Lit.int .u32 a3).wf = true) (w4 : (Lit.int .i64 a4).wf = true) :
    Calls Try.prog 5 #[.int .u32 a0, .int .u32 a1, .bool a2, .int .u32 a3, .int .i64 a4, .bool a5] w fun e w' => e = .returned (.bool true) ∧ Below w.heap.size w w' := by
  obtain ⟨k, h⟩ := P a0 a1 a2 a3 a4 a5 w0 w1 w3 w4
  refine (corrallaw9_WalkPages.calls k a0 a1 a2 a3 a4 a5 true w h rfl).mono ?_
  rintro e w' ⟨rfl, hd⟩
  exact ⟨rfl, hd⟩

end Go.Proofs.Ytecmjcfhbedelaa.QWalkPages
