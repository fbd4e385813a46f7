-- Laid by a program of this session (wip/tpl/mine.sh), out of the program's form in Lean: Lean checks it.
import Derived.Test.YthpaieglgjjbiaaQPteKindsx0
import Derived.Test.YthpaieglgjjbiaaQPteKindsx1
namespace Go.Proofs.Ythpaieglgjjbiaa.QPteKinds
open Go.RowKit Go.Proofs.YthpaieglgjjbiaaW.PrintWords Go.Proofs.YthpaieglgjjbiaaW.PrintLast Go.Proofs.YthpaieglgjjbiaaW.PrintMore
attribute [local go_sem] max2_int min2_int max_two min_two max_three min_three max_four min_four   -- for this text's walks alone
set_option linter.unusedVariables false
set_option linter.unusedSimpArgs false

/-! ### pte_Make: function 17 -/
def pte_Make.l0 : Nat → Int → Int → List Int → Int → Int → Option (Int)
  | 0, _, _, _, _, _ => none
  | k + 1, x0, x5, x8, x9, x10 => if x10 < x9 then (if 0 ≤ x10 then (if x10 < (x8.length : Int) then (pte_Make.l0 k x0 (Go.bits .or .u32 x5 (rd x8 x10)) x8 x9 (wrap64 (x10 + 1))) else (none)) else (none)) else ((word_Pack.f k (([(⟨10, 22, x0⟩ : S37), (⟨0, 10, x5⟩ : S37)] : List (S37)))).bind fun t116 => (some t116))
def pte_Make.f (k : Nat) (a0 : Int) (l1 : List Int) : Option (Int) := pte_Make.l0 k a0 0 l1 (l1.length : Int) 0
theorem pte_Make.mono_l : ∀ k, (∀ y0 y1 y2 y3 y4, LeO (pte_Make.l0 k y0 y1 y2 y3 y4) (pte_Make.l0 (k + 1) y0 y1 y2 y3 y4))
  | 0 => fun _ _ _ _ _ r h => by simp [pte_Make.l0] at h
  | k + 1 => by
    have ih0 := pte_Make.mono_l k
    · intro y0 y1 y2 y3 y4
      unfold pte_Make.l0
      repeat' first
      | (with_reducible exact ih0 _ _ _ _ _)
      | (with_reducible exact word_Pack.mono _ _)
      | (with_reducible exact LeO.refl _)
      | (with_reducible exact LeO.none _)
      | (with_reducible refine LeO.ite ?_ ?_)
      | (with_reducible refine LeO.bind ?_ (fun _ => ?_))
      | exact ih0 _ _ _ _ _
      | exact word_Pack.mono _ _
      | exact LeO.none _
      | refine LeO.ite ?_ ?_
      | refine LeO.bind ?_ (fun _ => ?_)
theorem pte_Make.mono : ∀ a0 a1 k, LeO (pte_Make.f k a0 a1) (pte_Make.f (k + 1) a0 a1) := by
  intro a0 a1 k
  have ih0 := pte_Make.mono_l k
  unfold pte_Make.f
  repeat' first
      | (with_reducible exact ih0 _ _ _ _ _)
      | (with_reducible exact word_Pack.mono _ _)
      | (with_reducible exact LeO.refl _)
      | (with_reducible exact LeO.none _)
      | (with_reducible refine LeO.ite ?_ ?_)
      | (with_reducible refine LeO.bind ?_ (fun _ => ?_))
      | exact ih0 _ _ _ _ _
      | exact word_Pack.mono _ _
      | exact LeO.none _
      | refine LeO.ite ?_ ?_
      | refine LeO.bind ?_ (fun _ => ?_)
set_option maxHeartbeats 8000000 in
set_option maxRecDepth 100000 in
theorem pte_Make.calls (k : Nat) (a0 : Int) (A1 : Option Addr) (c1 : Nat) (l1 : List Int) (r : Int) (w : World) (hr1 : Kd.C (Kd.int .u32) w A1 l1.length l1) (hc1 : l1.length ≤ c1) (h : pte_Make.f k a0 l1 = some r) :
    Calls Try.prog 17 #[.int .u32 a0, .slice A1 l1.length c1] w fun e w' => e = .returned (.int .u32 r) ∧ Below w.heap.size w w' := by
  have hu37 := Try.underlying37
  have HR1 := Aside0.mk hr1
  have HC1 := Aside0.mk hc1
  clear hr1 hc1
  have HB := Aside0.mk (Below.refl w.heap.size w)
  have H : (pte_Make.l0 k a0 0 l1 (l1.length : Int) 0) = some r := h
  clear h
  have H' := Aside0.mk H
  clear H
  go_enter Try.func17, Try.ntmps17
  go_wp2
  go_loopg [5, 10] k (fun kq v5 v10 w' => ∃ (x5_1 : Int) (x10_1 : Int), v5 = .int .u32 x5_1 ∧ v10 = .int .i64 x10_1 ∧ Aside0 (pte_Make.l0 kq a0 x5_1 l1 (l1.length : Int) x10_1 = some r) ∧ Aside0 (kq ≤ k) ∧ Aside0 (Below w.heap.size w w'))
  case atStart => exact ⟨(0), (0), (by first | rfl | (simp; done) | (simp [*]; done)), (by first | rfl | (simp; done) | (simp [*]; done)), H', ⟨Nat.le_refl _⟩, ⟨by repeat (first | (with_reducible first | exact HB.out | apply below_alloc | apply pw_below_drewN | apply below_drew1) | exact HB.out)⟩⟩
  case round =>
    clear H'
    try clear c1
    try clear p2
    obtain ⟨x5_1, x10_1, rfl, rfl, HA, HK1, HB⟩ := hrel
    cases gk with
    | zero => exact absurd HA.out (by simp [pte_Make.l0])
    | succ k1 =>
      have H := HA.out
      clear HA
      simp only [pte_Make.l0] at H
      by_cases c3 : x10_1 < (l1.length : Int)
      · rw [if_pos c3] at H
        have c3b0 : decide (x10_1 < (l1.length : Int)) = true := decide_eq_true c3
        clear c3
        by_cases c4 : 0 ≤ x10_1
        · rw [if_pos c4] at H
          have c4b0 : decide (0 ≤ x10_1) = true := decide_eq_true c4
          clear c4
          by_cases c5 : x10_1 < (l1.length : Int)
          · rw [if_pos c5] at H
            have c5b0 : decide (x10_1 < (l1.length : Int)) = true := decide_eq_true c5
            clear c5
            have H' := Aside0.mk H
            clear H
            have p112 : 0 ≤ (x10_1 : Int) := of_decide_eq_true (by first | (with_reducible assumption) | assumption)
            have q112 : x10_1 < (l1.length : Int) := of_decide_eq_true (by first | (with_reducible assumption) | assumption)
            obtain ⟨ad112, e112, hx112_0⟩ := Kd.at_int HR1.out x10_1 p112 q112
            cases e112
            replace hx112_0 := (HB.out.cell (World.block_lt_of_cell? w _ hx112_0)).trans hx112_0
            replace p112 := eq_true p112
            replace q112 := eq_true q112
            go_wp2
            go_roundg k1
            case measure => have := HK1.out; omega
            case rel => exact ⟨(Go.bits .or .u32 x5_1 (rd l1 x10_1)), (wrap64 (x10_1 + 1)), (by first | rfl | (simp; done) | (simp [*]; done)), (by first | rfl | (simp; done) | (simp [*]; done)), H', ⟨by have := HK1.out; omega⟩, ⟨by repeat (first | (with_reducible first | exact HB.out | apply below_alloc | apply pw_below_drewN | apply below_drew1) | exact HB.out)⟩⟩
          · rw [if_neg c5] at H
            exact absurd H (by simp)
        · rw [if_neg c4] at H
          exact absurd H (by simp)
      · rw [if_neg c3] at H
        have c3b0 : decide (x10_1 < (l1.length : Int)) = false := decide_eq_false c3
        clear c3
        obtain ⟨y113, hy113⟩ : ∃ y_ : List (S37), y_ = (([(⟨10, 22, a0⟩ : S37), (⟨0, 10, x5_1⟩ : S37)] : List (S37))) := ⟨_, rfl⟩
        replace H : ((word_Pack.f k1 y113).bind fun t116 => (some t116)) = some r := by first | (rw [hy113]; with_reducible exact H) | (have H2_ := (Option.bind_some _ _).symm.trans H; rw [hy113]; with_reducible exact H2_) | (have H2_ := (Option.bind_some _ _).symm.trans H; with_reducible exact H2_) | with_reducible exact H | (rw [hy113]; exact H) | exact H
        have Ny113 := Aside0.mk hy113
        clear hy113
        replace H := Option.bind_eq_some_iff.mp H
        obtain ⟨t116, A60, H⟩ := H
        replace H : (some t116) = some r := H
        have A6 := Aside0.mk A60
        clear A60
        obtain rfl := Option.some.inj H
        go_wp2_with (first | ((with_reducible refine gate_dst (N := 22) rfl ?_); refine Kd.R_lit k37 _ 37 ?hg (N := 22) ?hd (xs := ([(⟨10, 22, a0⟩ : S37), (⟨0, 10, x5_1⟩ : S37)] : List (S37))) (inner := [.int .i64 10, .int .i64 22, .int .u32 a0, .int .i64 0, .int .i64 10, .int .u32 x5_1]) (ok := fun _ => True) (okp := fun _ => True) ?hr ?hp (fun _ hk => hk) trivial (Below.refl _ _) (Nat.le_refl _) (by simp) ?_; (case hd => rfl); (case hg => rfl); (case hr => first | (go_simp; done) | (go_simp; rfl)); (case hp => exact (Reps.c3 (show Kd.M k37 _ _ _ (⟨10, 22, a0⟩ : S37) [.int .i64 10, .int .i64 22, .int .u32 a0] from (k37_mkM _ _ _ (⟨10, 22, a0⟩ : S37) )) (Reps.c3 (show Kd.M k37 _ _ _ (⟨0, 10, x5_1⟩ : S37) [.int .i64 0, .int .i64 10, .int .u32 x5_1] from (k37_mkM _ _ _ (⟨0, 10, x5_1⟩ : S37) )) (Reps.none _ _)))); intro v114 w7 ho8 hb hg_ hnew_; clear hg_ hnew_; (first | rw [← Ny113.out] at ho8 | (simp only [Int.reduceToNat] at ho8; rw [← Ny113.out] at ho8)); have n0_ := Aside0.mk (Kd.R_lower ho8 (below_size (by repeat (first | (with_reducible first | exact HB.out | apply below_alloc | apply pw_below_drewN | apply below_drew1) | exact HB.out)))); have n1_ := Aside0.mk (below_step (by repeat (first | (with_reducible first | exact HB.out | apply below_alloc | apply pw_below_drewN | apply below_drew1) | exact HB.out)) hb); clear HB; have HO115 := n0_; have HB := n1_; clear n0_ n1_; clear hb ho8; obtain ⟨Ao9, co9, eo9⟩ := Kd.R_slice HO115.out; subst eo9) | ((with_reducible refine gate_callee (f := 21) rfl ?_); refine goesL_ (some 23) rfl rfl Try.func21 (by kernel_rfl) rfl #[.slice Ao9 y113.length co9] rfl (by (try simp only [List.map_toArray, List.map_cons, List.map_nil]); first | done | rfl | (simp only [List.length_drop, List.length_take]; rfl)) ?_; (with_reducible refine (word_Pack.calls k1 _ _ y113 t116 _ ?side1 ?side2 A6.out).mono ?_); (case side1 => repeat (first | exact (Kd.R_reads' HO115.out).2.2 | (with_reducible refine Kd.C_alloc ?_ _) | (with_reducible refine Kd.C_drewN ?_ _) | (with_reducible refine Kd.C_drew ?_))); (case side2 => exact (Kd.R_reads' HO115.out).2.1); rintro e w10 ⟨rfl, hb⟩; refine ⟨_, rfl, ?_⟩; have n0_ := Aside0.mk (Kd.R_below (by (with_reducible repeat (first | apply Kd.R_alloc | apply Kd.R_drewN | apply Kd.R_drew)); exact HO115.out) hb); have n1_ := Aside0.mk (below_step (by repeat (first | (with_reducible first | exact HB.out | apply below_alloc | apply pw_below_drewN | apply below_drew1) | exact HB.out)) hb); clear HO115; clear HB; have HO115 := n0_; have HB := n1_; clear n0_ n1_; (try clear hb); (try clear hb2); (try clear hk); (try clear hi)))
        go_ret
        exact ⟨by first | rfl | (simp [errW_none, errW_some] <;> rfl) | (simp [*, errW_none, errW_some] <;> rfl), by repeat (first | (with_reducible first | exact HB.out | apply below_alloc | apply pw_below_drewN | apply below_drew1) | exact HB.out)⟩

/-! ### corrallaw8_first: function 13 -/
def corrallaw8_first.f (k : Nat)  : Option (Bool) := (pte_Make.f k 5 (([1, 2, 64] : List Int))).bind fun t120 => (if t120 = 5187 then ((pte_Bad.f 5).bind fun t121 => (if t121 = true then ((pte_Make.f k 5 (([1, 2, 16, 64] : List Int))).bind fun t125 => ((pte_May.f t125 2 0).bind fun t126 => (some t126))) else (some false))) else (some false))
theorem corrallaw8_first.mono : ∀ k, LeO (corrallaw8_first.f k ) (corrallaw8_first.f (k + 1) ) := by
  intro  k
  unfold corrallaw8_first.f
  repeat' first
      | (with_reducible exact pte_Make.mono _ _ _)
      | (with_reducible exact LeO.refl _)
      | (with_reducible exact LeO.none _)
      | (with_reducible refine LeO.ite ?_ ?_)
      | (with_reducible refine LeO.bind ?_ (fun _ => ?_))
      | exact pte_Make.mono _ _ _
      | exact LeO.none _
      | refine LeO.ite ?_ ?_
      | refine LeO.bind ?_ (fun _ => ?_)
set_option maxHeartbeats 8000000 in
set_option maxRecDepth 100000 in
theorem corrallaw8_first.calls (k : Nat)  (r : Bool) (w : World) (h : corrallaw8_first.f k  = some r) :
    Calls Try.prog 13 #[] w fun e w' => e = .returned (.bool r) ∧ Below w.heap.size w w' := by
  have HB := Aside0.mk (Below.refl w.heap.size w)
  have H : ((pte_Make.f k 5 (([1, 2, 64] : List Int))).bind fun t120 => (if t120 = 5187 then ((pte_Bad.f 5).bind fun t121 => (if t121 = true then ((pte_Make.f k 5 (([1, 2, 16, 64] : List Int))).bind fun t125 => ((pte_May.f t125 2 0).bind fun t126 => (some t126))) else (some false))) else (some false))) = some r := h
  clear h
  obtain ⟨y117, hy117⟩ : ∃ y_ : List Int, y_ = (([1, 2, 64] : List Int)) := ⟨_, rfl⟩
  replace H : ((pte_Make.f k 5 y117).bind fun t120 => (if t120 = 5187 then ((pte_Bad.f 5).bind fun t121 => (if t121 = true then ((pte_Make.f k 5 (([1, 2, 16, 64] : List Int))).bind fun t125 => ((pte_May.f t125 2 0).bind fun t126 => (some t126))) else (some false))) else (some false))) = some r := by first | (rw [hy117]; with_reducible exact H) | (have H2_ := (Option.bind_some _ _).symm.trans H; rw [hy117]; with_reducible exact H2_) | (have H2_ := (Option.bind_some _ _).symm.trans H; with_reducible exact H2_) | with_reducible exact H | (rw [hy117]; exact H) | exact H
  have Ny117 := Aside0.mk hy117
  clear hy117
  replace H := Option.bind_eq_some_iff.mp H
  obtain ⟨t120, A10, H⟩ := H
  replace H : (if t120 = 5187 then ((pte_Bad.f 5).bind fun t121 => (if t121 = true then ((pte_Make.f k 5 (([1, 2, 16, 64] : List Int))).bind fun t125 => ((pte_May.f t125 2 0).bind fun t126 => (some t126))) else (some false))) else (some false)) = some r := H
  have A1 := Aside0.mk A10
  clear A10
  by_cases c2 : t120 = 5187
  · rw [if_pos c2] at H
    have c2b0 : (t120 == 5187) = true := beq_iff_eq.mpr c2
    have c2b1 : (t120 != 5187) = false := bne_eq_false_iff_eq.mpr c2
    clear c2
    replace H := Option.bind_eq_some_iff.mp H
    obtain ⟨t121, A30, H⟩ := H
    replace H : (if t121 = true then ((pte_Make.f k 5 (([1, 2, 16, 64] : List Int))).bind fun t125 => ((pte_May.f t125 2 0).bind fun t126 => (some t126))) else (some false)) = some r := H
    have A3 := Aside0.mk A30
    clear A30
    by_cases c4 : t121 = true
    · subst c4
      have H1 : ((pte_Make.f k 5 (([1, 2, 16, 64] : List Int))).bind fun t125 => ((pte_May.f t125 2 0).bind fun t126 => (some t126))) = some r := by rw [if_pos rfl] at H; exact H
      clear H
      have H := H1
      clear H1
      obtain ⟨y122, hy122⟩ : ∃ y_ : List Int, y_ = (([1, 2, 16, 64] : List Int)) := ⟨_, rfl⟩
      replace H : ((pte_Make.f k 5 y122).bind fun t125 => ((pte_May.f t125 2 0).bind fun t126 => (some t126))) = some r := by first | (rw [hy122]; with_reducible exact H) | (have H2_ := (Option.bind_some _ _).symm.trans H; rw [hy122]; with_reducible exact H2_) | (have H2_ := (Option.bind_some _ _).symm.trans H; with_reducible exact H2_) | with_reducible exact H | (rw [hy122]; exact H) | exact H
      have Ny122 := Aside0.mk hy122
      clear hy122
      replace H := Option.bind_eq_some_iff.mp H
      obtain ⟨t125, A50, H⟩ := H
      replace H : ((pte_May.f t125 2 0).bind fun t126 => (some t126)) = some r := H
      have A5 := Aside0.mk A50
      clear A50
      replace H := Option.bind_eq_some_iff.mp H
      obtain ⟨t126, A60, H⟩ := H
      replace H : (some t126) = some r := H
      have A6 := Aside0.mk A60
      clear A60
      obtain rfl := Option.some.inj H
      go_enter Try.func13, Try.ntmps13
      go_wp2_with (first | ((with_reducible refine gate_dst (N := 1) rfl ?_); (try (refine gate_guard (by rfl) ?_; dsimp only)); refine Kd.R_lit (Kd.int .u32) _ 22 ?hg (N := 1) ?hd (xs := ([1, 2, 64] : List Int)) (inner := [.int .u32 1, .int .u32 2, .int .u32 64]) (ok := fun _ => True) (okp := fun _ => True) ?hr ?hp (fun _ hk => hk) trivial (Below.refl _ _) (Nat.le_refl _) (by simp) ?_; (case hd => rfl); (case hg => rfl); (case hr => first | (go_simp; done) | (go_simp; rfl)); (case hp => exact (Reps.one (show Kd.M (Kd.int .u32) _ _ _ 1 [.int .u32 1] from rfl) (Reps.one (show Kd.M (Kd.int .u32) _ _ _ 2 [.int .u32 2] from rfl) (Reps.one (show Kd.M (Kd.int .u32) _ _ _ 64 [.int .u32 64] from rfl) (Reps.none _ _))))); intro v118 w7 ho8 hb hg_ hnew_; clear hg_ hnew_; (first | rw [← Ny117.out] at ho8 | (simp only [Int.reduceToNat] at ho8; rw [← Ny117.out] at ho8)); have n0_ := Aside0.mk (Kd.R_lower ho8 (below_size (by repeat (first | (with_reducible first | exact HB.out | apply below_alloc | apply pw_below_drewN | apply below_drew1) | exact HB.out)))); have n1_ := Aside0.mk (below_step (by repeat (first | (with_reducible first | exact HB.out | apply below_alloc | apply pw_below_drewN | apply below_drew1) | exact HB.out)) hb); clear HB; have HO119 := n0_; have HB := n1_; clear n0_ n1_; clear hb ho8; obtain ⟨Ao9, co9, eo9⟩ := Kd.R_slice HO119.out; subst eo9) | ((with_reducible refine gate_callee (f := 17) rfl ?_); refine goesL_ (some 2) rfl rfl Try.func17 (by kernel_rfl) rfl #[.int .u32 5, .slice Ao9 y117.length co9] rfl (by (try simp only [List.map_toArray, List.map_cons, List.map_nil]); first | done | rfl | (simp only [List.length_drop, List.length_take]; rfl)) ?_; (with_reducible refine (pte_Make.calls k 5 _ _ y117 t120 _ ?side1 ?side2 A1.out).mono ?_); (case side1 => repeat (first | exact (Kd.R_reads' HO119.out).2.2 | (with_reducible refine Kd.C_alloc ?_ _) | (with_reducible refine Kd.C_drewN ?_ _) | (with_reducible refine Kd.C_drew ?_))); (case side2 => exact (Kd.R_reads' HO119.out).2.1); rintro e w10 ⟨rfl, hb⟩; refine ⟨_, rfl, ?_⟩; have n0_ := Aside0.mk (Kd.R_below (by (with_reducible repeat (first | apply Kd.R_alloc | apply Kd.R_drewN | apply Kd.R_drew)); exact HO119.out) hb); have n1_ := Aside0.mk (below_step (by repeat (first | (with_reducible first | exact HB.out | apply below_alloc | apply pw_below_drewN | apply below_drew1) | exact HB.out)) hb); clear HO119; clear HB; have HO119 := n0_; have HB := n1_; clear n0_ n1_; (try clear hb); (try clear hb2); (try clear hk); (try clear hi)) | (go_at_call 15; (with_reducible refine (pte_Bad.calls 5 true _ A3.out).mono ?_); rintro e w' ⟨rfl, ⟨nd, rfl⟩⟩) | ((with_reducible refine gate_dst (N := 8) rfl ?_); (try (refine gate_guard (by rfl) ?_; dsimp only)); refine Kd.R_lit (Kd.int .u32) _ 22 ?hg (N := 8) ?hd (xs := ([1, 2, 16, 64] : List Int)) (inner := [.int .u32 1, .int .u32 2, .int .u32 16, .int .u32 64]) (ok := fun _ => True) (okp := fun _ => True) ?hr ?hp (fun _ hk => hk) trivial (Below.refl _ _) (Nat.le_refl _) (by simp) ?_; (case hd => rfl); (case hg => rfl); (case hr => first | (go_simp; done) | (go_simp; rfl)); (case hp => exact (Reps.one (show Kd.M (Kd.int .u32) _ _ _ 1 [.int .u32 1] from rfl) (Reps.one (show Kd.M (Kd.int .u32) _ _ _ 2 [.int .u32 2] from rfl) (Reps.one (show Kd.M (Kd.int .u32) _ _ _ 16 [.int .u32 16] from rfl) (Reps.one (show Kd.M (Kd.int .u32) _ _ _ 64 [.int .u32 64] from rfl) (Reps.none _ _)))))); intro v123 w11 ho12 hb hg_ hnew_; clear hg_ hnew_; (first | rw [← Ny122.out] at ho12 | (simp only [Int.reduceToNat] at ho12; rw [← Ny122.out] at ho12)); have n0_ := Aside0.mk (Kd.R_elder' (by (with_reducible repeat (first | apply Kd.R_alloc | apply Kd.R_drewN | apply Kd.R_drew)); exact HO119.out) (Kd.R_base ho12) hb); have n1_ := Aside0.mk (Kd.R_lower (Kd.R_new' ho12 (Kd.R_lt (by (with_reducible repeat (first | apply Kd.R_alloc | apply Kd.R_drewN | apply Kd.R_drew)); exact HO119.out))) (below_size (by repeat (first | (with_reducible first | exact HB.out | apply below_alloc | apply pw_below_drewN | apply below_drew1) | exact HB.out)))); have n2_ := Aside0.mk (below_step (by repeat (first | (with_reducible first | exact HB.out | apply below_alloc | apply pw_below_drewN | apply below_drew1) | exact HB.out)) hb); clear HO119; clear HB; have HO119 := n0_; have HO124 := n1_; have HB := n2_; clear n0_ n1_ n2_; clear hb ho12; obtain ⟨Ao13, co13, eo13⟩ := Kd.R_slice HO124.out; subst eo13) | (go_at_call 17; (with_reducible refine (pte_Make.calls k 5 _ _ y122 t125 _ ?side1 ?side2 A5.out).mono ?_); (case side1 => repeat (first | exact (Kd.R_reads' HO124.out).2.2 | (with_reducible refine Kd.C_alloc ?_ _) | (with_reducible refine Kd.C_drewN ?_ _) | (with_reducible refine Kd.C_drew ?_))); (case side2 => exact (Kd.R_reads' HO124.out).2.1); rintro e w14 ⟨rfl, hb⟩; have n0_ := Aside0.mk (Kd.R_below (by (with_reducible repeat (first | apply Kd.R_alloc | apply Kd.R_drewN | apply Kd.R_drew)); exact HO119.out) hb); have n1_ := Aside0.mk (Kd.R_below (by (with_reducible repeat (first | apply Kd.R_alloc | apply Kd.R_drewN | apply Kd.R_drew)); exact HO124.out) hb); have n2_ := Aside0.mk (below_step (by repeat (first | (with_reducible first | exact HB.out | apply below_alloc | apply pw_below_drewN | apply below_drew1) | exact HB.out)) hb); clear HO119; clear HO124; clear HB; have HO119 := n0_; have HO124 := n1_; have HB := n2_; clear n0_ n1_ n2_; (try clear hb); (try clear hb2); (try clear hk); (try clear hi)) | (go_at_call 14; (with_reducible refine (pte_May.calls t125 2 0 t126 _ A6.out).mono ?_); rintro e w' ⟨rfl, ⟨nd, rfl⟩⟩))
      go_ret
      exact ⟨by first | rfl | (simp [errW_none, errW_some] <;> rfl) | (simp [*, errW_none, errW_some] <;> rfl), by repeat (first | (with_reducible first | exact HB.out | apply below_alloc | apply pw_below_drewN | apply below_drew1) | exact HB.out)⟩
    · replace c4 := Bool.eq_false_iff.mpr c4
      subst c4
      have H1 : (some false) = some r := by rw [if_neg (show ¬ (false = true) by decide)] at H; exact H
      clear H
      have H := H1
      clear H1
      obtain rfl := Option.some.inj H
      go_enter Try.func13, Try.ntmps13
      go_wp2_with (first | ((with_reducible refine gate_dst (N := 1) rfl ?_); (try (refine gate_guard (by rfl) ?_; dsimp only)); refine Kd.R_lit (Kd.int .u32) _ 22 ?hg (N := 1) ?hd (xs := ([1, 2, 64] : List Int)) (inner := [.int .u32 1, .int .u32 2, .int .u32 64]) (ok := fun _ => True) (okp := fun _ => True) ?hr ?hp (fun _ hk => hk) trivial (Below.refl _ _) (Nat.le_refl _) (by simp) ?_; (case hd => rfl); (case hg => rfl); (case hr => first | (go_simp; done) | (go_simp; rfl)); (case hp => exact (Reps.one (show Kd.M (Kd.int .u32) _ _ _ 1 [.int .u32 1] from rfl) (Reps.one (show Kd.M (Kd.int .u32) _ _ _ 2 [.int .u32 2] from rfl) (Reps.one (show Kd.M (Kd.int .u32) _ _ _ 64 [.int .u32 64] from rfl) (Reps.none _ _))))); intro v118 w15 ho16 hb hg_ hnew_; clear hg_ hnew_; (first | rw [← Ny117.out] at ho16 | (simp only [Int.reduceToNat] at ho16; rw [← Ny117.out] at ho16)); have n0_ := Aside0.mk (Kd.R_lower ho16 (below_size (by repeat (first | (with_reducible first | exact HB.out | apply below_alloc | apply pw_below_drewN | apply below_drew1) | exact HB.out)))); have n1_ := Aside0.mk (below_step (by repeat (first | (with_reducible first | exact HB.out | apply below_alloc | apply pw_below_drewN | apply below_drew1) | exact HB.out)) hb); clear HB; have HO119 := n0_; have HB := n1_; clear n0_ n1_; clear hb ho16; obtain ⟨Ao17, co17, eo17⟩ := Kd.R_slice HO119.out; subst eo17) | ((with_reducible refine gate_callee (f := 17) rfl ?_); refine goesL_ (some 2) rfl rfl Try.func17 (by kernel_rfl) rfl #[.int .u32 5, .slice Ao17 y117.length co17] rfl (by (try simp only [List.map_toArray, List.map_cons, List.map_nil]); first | done | rfl | (simp only [List.length_drop, List.length_take]; rfl)) ?_; (with_reducible refine (pte_Make.calls k 5 _ _ y117 t120 _ ?side1 ?side2 A1.out).mono ?_); (case side1 => repeat (first | exact (Kd.R_reads' HO119.out).2.2 | (with_reducible refine Kd.C_alloc ?_ _) | (with_reducible refine Kd.C_drewN ?_ _) | (with_reducible refine Kd.C_drew ?_))); (case side2 => exact (Kd.R_reads' HO119.out).2.1); rintro e w18 ⟨rfl, hb⟩; refine ⟨_, rfl, ?_⟩; have n0_ := Aside0.mk (Kd.R_below (by (with_reducible repeat (first | apply Kd.R_alloc | apply Kd.R_drewN | apply Kd.R_drew)); exact HO119.out) hb); have n1_ := Aside0.mk (below_step (by repeat (first | (with_reducible first | exact HB.out | apply below_alloc | apply pw_below_drewN | apply below_drew1) | exact HB.out)) hb); clear HO119; clear HB; have HO119 := n0_; have HB := n1_; clear n0_ n1_; (try clear hb); (try clear hb2); (try clear hk); (try clear hi)) | (go_at_call 15; (with_reducible refine (pte_Bad.calls 5 false _ A3.out).mono ?_); rintro e w' ⟨rfl, ⟨nd, rfl⟩⟩))
      go_ret
      exact ⟨by first | rfl | (simp [errW_none, errW_some] <;> rfl) | (simp [*, errW_none, errW_some] <;> rfl), by repeat (first | (with_reducible first | exact HB.out | apply below_alloc | apply pw_below_drewN | apply below_drew1) | exact HB.out)⟩
  · rw [if_neg c2] at H
    have c2b0 : (t120 == 5187) = false := beq_eq_false_iff_ne.mpr c2
    have c2b1 : (t120 != 5187) = true := bne_iff_ne.mpr c2
    obtain rfl := Option.some.inj H
    go_enter Try.func13, Try.ntmps13
    go_wp2_with (first | ((with_reducible refine gate_dst (N := 1) rfl ?_); (try (refine gate_guard (by rfl) ?_; dsimp only)); refine Kd.R_lit (Kd.int .u32) _ 22 ?hg (N := 1) ?hd (xs := ([1, 2, 64] : List Int)) (inner := [.int .u32 1, .int .u32 2, .int .u32 64]) (ok := fun _ => True) (okp := fun _ => True) ?hr ?hp (fun _ hk => hk) trivial (Below.refl _ _) (Nat.le_refl _) (by simp) ?_; (case hd => rfl); (case hg => rfl); (case hr => first | (go_simp; done) | (go_simp; rfl)); (case hp => exact (Reps.one (show Kd.M (Kd.int .u32) _ _ _ 1 [.int .u32 1] from rfl) (Reps.one (show Kd.M (Kd.int .u32) _ _ _ 2 [.int .u32 2] from rfl) (Reps.one (show Kd.M (Kd.int .u32) _ _ _ 64 [.int .u32 64] from rfl) (Reps.none _ _))))); intro v118 w19 ho20 hb hg_ hnew_; clear hg_ hnew_; (first | rw [← Ny117.out] at ho20 | (simp only [Int.reduceToNat] at ho20; rw [← Ny117.out] at ho20)); have n0_ := Aside0.mk (Kd.R_lower ho20 (below_size (by repeat (first | (with_reducible first | exact HB.out | apply below_alloc | apply pw_below_drewN | apply below_drew1) | exact HB.out)))); have n1_ := Aside0.mk (below_step (by repeat (first | (with_reducible first | exact HB.out | apply below_alloc | apply pw_below_drewN | apply below_drew1) | exact HB.out)) hb); clear HB; have HO119 := n0_; have HB := n1_; clear n0_ n1_; clear hb ho20; obtain ⟨Ao21, co21, eo21⟩ := Kd.R_slice HO119.out; subst eo21) | ((with_reducible refine gate_callee (f := 17) rfl ?_); refine goesL_ (some 2) rfl rfl Try.func17 (by kernel_rfl) rfl #[.int .u32 5, .slice Ao21 y117.length co21] rfl (by (try simp only [List.map_toArray, List.map_cons, List.map_nil]); first | done | rfl | (simp only [List.length_drop, List.length_take]; rfl)) ?_; (with_reducible refine (pte_Make.calls k 5 _ _ y117 t120 _ ?side1 ?side2 A1.out).mono ?_); (case side1 => repeat (first | exact (Kd.R_reads' HO119.out).2.2 | (with_reducible refine Kd.C_alloc ?_ _) | (with_reducible refine Kd.C_drewN ?_ _) | (with_reducible refine Kd.C_drew ?_))); (case side2 => exact (Kd.R_reads' HO119.out).2.1); rintro e w22 ⟨rfl, hb⟩; refine ⟨_, rfl, ?_⟩; have n0_ := Aside0.mk (Kd.R_below (by (with_reducible repeat (first | apply Kd.R_alloc | apply Kd.R_drewN | apply Kd.R_drew)); exact HO119.out) hb); have n1_ := Aside0.mk (below_step (by repeat (first | (with_reducible first | exact HB.out | apply below_alloc | apply pw_below_drewN | apply below_drew1) | exact HB.out)) hb); clear HO119; clear HB; have HO119 := n0_; have HB := n1_; clear n0_ n1_; (try clear hb); (try clear hb2); (try clear hk); (try clear hi)))
    go_ret
    exact ⟨by first | rfl | (simp [errW_none, errW_some] <;> rfl) | (simp [*, errW_none, errW_some] <;> rfl), by repeat (first | (with_reducible first | exact HB.out | apply below_alloc | apply pw_below_drewN | apply below_drew1) | exact HB.out)⟩

/-! ### corrallaw8_PteKinds: function 4 -/
mutual
def corrallaw8_PteKinds.j0 : Nat → Int → Int → Bool → Bool → Int → Option (Bool)
  | 0, _, _, _, _, _ => none
  | k + 1, x0, x1, x2, x7, x8 => (some (([8, 2, 4] : List Int) : List Int)).bind fun y128 => (if 0 ≤ (wrap64 (x1 - 1)) then (if (wrap64 (x1 - 1)) < (y128.length : Int) then (corrallaw8_PteKinds.l0 k x0 x1 x2 x7 x8 (rd y128 (wrap64 (x1 - 1))) 0) else (none)) else (none))
def corrallaw8_PteKinds.l0 : Nat → Int → Int → Bool → Bool → Int → Int → Int → Option (Bool)
  | 0, _, _, _, _, _, _, _ => none
  | k + 1, x0, x1, x2, x7, x8, x9, x10 => if x10 < 256 then ((pte_Make.f k x0 (([x10] : List Int))).bind fun t135 => (if (Go.bits .and .u32 x10 1) = 0 then (corrallaw8_PteKinds.j2 k x0 x1 x2 x7 x8 x9 x10 t135 (Go.bits .and .u32 x10 10) true) else (if (Go.bits .and .u32 x10 4) = 0 then (if (Go.bits .and .u32 x10 10) = 0 then (corrallaw8_PteKinds.j2 k x0 x1 x2 x7 x8 x9 x10 t135 (Go.bits .and .u32 x10 10) ((Go.bits .and .u32 x10 208) != 0)) else (corrallaw8_PteKinds.j2 k x0 x1 x2 x7 x8 x9 x10 t135 (Go.bits .and .u32 x10 10) false)) else (if (Go.bits .and .u32 x10 2) = 0 then (corrallaw8_PteKinds.j2 k x0 x1 x2 x7 x8 x9 x10 t135 (Go.bits .and .u32 x10 10) true) else (if (Go.bits .and .u32 x10 10) = 0 then (corrallaw8_PteKinds.j2 k x0 x1 x2 x7 x8 x9 x10 t135 (Go.bits .and .u32 x10 10) ((Go.bits .and .u32 x10 208) != 0)) else (corrallaw8_PteKinds.j2 k x0 x1 x2 x7 x8 x9 x10 t135 (Go.bits .and .u32 x10 10) false)))))) else (some x7)
def corrallaw8_PteKinds.j2 : Nat → Int → Int → Bool → Bool → Int → Int → Int → Int → Int → Bool → Option (Bool)
  | 0, _, _, _, _, _, _, _, _, _, _ => none
  | k + 1, x0, x1, x2, x7, x8, x9, x10, x11, x12, x13 => if x13 = true then (corrallaw8_PteKinds.j3 k x0 x1 x2 x7 x8 x9 x10 x11 x12 x13 false) else (if x12 = 0 then (corrallaw8_PteKinds.j3 k x0 x1 x2 x7 x8 x9 x10 x11 x12 x13 false) else (if (Go.bits .and .u32 x10 x9) = 0 then (corrallaw8_PteKinds.j3 k x0 x1 x2 x7 x8 x9 x10 x11 x12 x13 false) else (corrallaw8_PteKinds.j3 k x0 x1 x2 x7 x8 x9 x10 x11 x12 x13 (((Go.bits .and .u32 x10 16) != 0) == x2))))
def corrallaw8_PteKinds.j3 : Nat → Int → Int → Bool → Bool → Int → Int → Int → Int → Int → Bool → Bool → Option (Bool)
  | 0, _, _, _, _, _, _, _, _, _, _, _ => none
  | k + 1, x0, x1, x2, x7, x8, x9, x10, x11, x12, x13, x14 => (pte_Bad.f x11).bind fun t136 => (if (t136 != x13) = true then (some false) else ((pte_Leaf.f x11).bind fun t137 => (if (t137 != (x12 != 0)) = true then (some false) else ((pte_May.f x11 x1 x8).bind fun t138 => (if (t138 != x14) = true then (some false) else (corrallaw8_PteKinds.l0 k x0 x1 x2 x7 x8 x9 ((x10 + 1) % 4294967296)))))))
end
def corrallaw8_PteKinds.f (k : Nat) (a0 : Int) (a1 : Int) (a2 : Bool) : Option (Bool) := (corrallaw8_first.f k).bind fun t127 => (if t127 = true then (if a2 = true then (corrallaw8_PteKinds.j0 k a0 (wrap64 ((Int.tmod (wrap64 ((Int.tmod a1 3) + 3)) 3) + 1)) a2 t127 0) else (corrallaw8_PteKinds.j0 k a0 (wrap64 ((Int.tmod (wrap64 ((Int.tmod a1 3) + 3)) 3) + 1)) a2 t127 3)) else (some false))
theorem corrallaw8_PteKinds.mono_l : ∀ k, (∀ y0 y1 y2 y3 y4, LeO (corrallaw8_PteKinds.j0 k y0 y1 y2 y3 y4) (corrallaw8_PteKinds.j0 (k + 1) y0 y1 y2 y3 y4)) ∧ (∀ y0 y1 y2 y3 y4 y5 y6, LeO (corrallaw8_PteKinds.l0 k y0 y1 y2 y3 y4 y5 y6) (corrallaw8_PteKinds.l0 (k + 1) y0 y1 y2 y3 y4 y5 y6)) ∧ (∀ y0 y1 y2 y3 y4 y5 y6 y7 y8 y9, LeO (corrallaw8_PteKinds.j2 k y0 y1 y2 y3 y4 y5 y6 y7 y8 y9) (corrallaw8_PteKinds.j2 (k + 1) y0 y1 y2 y3 y4 y5 y6 y7 y8 y9)) ∧ (∀ y0 y1 y2 y3 y4 y5 y6 y7 y8 y9 y10, LeO (corrallaw8_PteKinds.j3 k y0 y1 y2 y3 y4 y5 y6 y7 y8 y9 y10) (corrallaw8_PteKinds.j3 (k + 1) y0 y1 y2 y3 y4 y5 y6 y7 y8 y9 y10))
  | 0 => ⟨fun _ _ _ _ _ r h => by simp [corrallaw8_PteKinds.j0] at h, fun _ _ _ _ _ _ _ r h => by simp [corrallaw8_PteKinds.l0] at h, fun _ _ _ _ _ _ _ _ _ _ r h => by simp [corrallaw8_PteKinds.j2] at h, fun _ _ _ _ _ _ _ _ _ _ _ r h => by simp [corrallaw8_PteKinds.j3] at h⟩
  | k + 1 => by
    obtain ⟨ih0, ih1, ih2, ih3⟩ := corrallaw8_PteKinds.mono_l k
    refine ⟨?_, ?_, ?_, ?_⟩
    · intro y0 y1 y2 y3 y4
      unfold corrallaw8_PteKinds.j0
      repeat' first
      | (with_reducible exact ih0 _ _ _ _ _)
      | (with_reducible exact ih1 _ _ _ _ _ _ _)
      | (with_reducible exact ih2 _ _ _ _ _ _ _ _ _ _)
      | (with_reducible exact ih3 _ _ _ _ _ _ _ _ _ _ _)
      | (with_reducible exact corrallaw8_first.mono _)
      | (with_reducible exact pte_Make.mono _ _ _)
      | (with_reducible exact LeO.refl _)
      | (with_reducible exact LeO.none _)
      | (with_reducible refine LeO.ite ?_ ?_)
      | (with_reducible refine LeO.bind ?_ (fun _ => ?_))
      | exact ih0 _ _ _ _ _
      | exact ih1 _ _ _ _ _ _ _
      | exact ih2 _ _ _ _ _ _ _ _ _ _
      | exact ih3 _ _ _ _ _ _ _ _ _ _ _
      | exact corrallaw8_first.mono _
      | exact pte_Make.mono _ _ _
      | exact LeO.none _
      | refine LeO.ite ?_ ?_
      | refine LeO.bind ?_ (fun _ => ?_)
    · intro y0 y1 y2 y3 y4 y5 y6
      unfold corrallaw8_PteKinds.l0
      repeat' first
      | (with_reducible exact ih0 _ _ _ _ _)
      | (with_reducible exact ih1 _ _ _ _ _ _ _)
      | (with_reducible exact ih2 _ _ _ _ _ _ _ _ _ _)
      | (with_reducible exact ih3 _ _ _ _ _ _ _ _ _ _ _)
      | (with_reducible exact corrallaw8_first.mono _)
      | (with_reducible exact pte_Make.mono _ _ _)
      | (with_reducible exact LeO.refl _)
      | (with_reducible exact LeO.none _)
      | (with_reducible refine LeO.ite ?_ ?_)
      | (with_reducible refine LeO.bind ?_ (fun _ => ?_))
      | exact ih0 _ _ _ _ _
      | exact ih1 _ _ _ _ _ _ _
      | exact ih2 _ _ _ _ _ _ _ _ _ _
      | exact ih3 _ _ _ _ _ _ _ _ _ _ _
      | exact corrallaw8_first.mono _
      | exact pte_Make.mono _ _ _
      | exact LeO.none _
      | refine LeO.ite ?_ ?_
      | refine LeO.bind ?_ (fun _ => ?_)
    · intro y0 y1 y2 y3 y4 y5 y6 y7 y8 y9
      unfold corrallaw8_PteKinds.j2
      repeat' first
      | (with_reducible exact ih0 _ _ _ _ _)
      | (with_reducible exact ih1 _ _ _ _ _ _ _)
      | (with_reducible exact ih2 _ _ _ _ _ _ _ _ _ _)
      | (with_reducible exact ih3 _ _ _ _ _ _ _ _ _ _ _)
      | (with_reducible exact corrallaw8_first.mono _)
      | (with_reducible exact pte_Make.mono _ _ _)
      | (with_reducible exact LeO.refl _)
      | (with_reducible exact LeO.none _)
      | (with_reducible refine LeO.ite ?_ ?_)
      | (with_reducible refine LeO.bind ?_ (fun _ => ?_))
      | exact ih0 _ _ _ _ _
      | exact ih1 _ _ _ _ _ _ _
      | exact ih2 _ _ _ _ _ _ _ _ _ _
      | exact ih3 _ _ _ _ _ _ _ _ _ _ _
      | exact corrallaw8_first.mono _
      | exact pte_Make.mono _ _ _
      | exact LeO.none _
      | refine LeO.ite ?_ ?_
      | refine LeO.bind ?_ (fun _ => ?_)
    · intro y0 y1 y2 y3 y4 y5 y6 y7 y8 y9 y10
      unfold corrallaw8_PteKinds.j3
      repeat' first
      | (with_reducible exact ih0 _ _ _ _ _)
      | (with_reducible exact ih1 _ _ _ _ _ _ _)
      | (with_reducible exact ih2 _ _ _ _ _ _ _ _ _ _)
      | (with_reducible exact ih3 _ _ _ _ _ _ _ _ _ _ _)
      | (with_reducible exact corrallaw8_first.mono _)
      | (with_reducible exact pte_Make.mono _ _ _)
      | (with_reducible exact LeO.refl _)
      | (with_reducible exact LeO.none _)
      | (with_reducible refine LeO.ite ?_ ?_)
      | (with_reducible refine LeO.bind ?_ (fun _ => ?_))
      | exact ih0 _ _ _ _ _
      | exact ih1 _ _ _ _ _ _ _
      | exact ih2 _ _ _ _ _ _ _ _ _ _
      | exact ih3 _ _ _ _ _ _ _ _ _ _ _
      | exact corrallaw8_first.mono _
      | exact pte_Make.mono _ _ _
      | exact LeO.none _
      | refine LeO.ite ?_ ?_
      | refine LeO.bind ?_ (fun _ => ?_)
theorem corrallaw8_PteKinds.mono : ∀ a0 a1 a2 k, LeO (corrallaw8_PteKinds.f k a0 a1 a2) (corrallaw8_PteKinds.f (k + 1) a0 a1 a2) := by
  intro a0 a1 a2 k
  obtain ⟨ih0, ih1, ih2, ih3⟩ := corrallaw8_PteKinds.mono_l k
  unfold corrallaw8_PteKinds.f
  repeat' first
      | (with_reducible exact ih0 _ _ _ _ _)
      | (with_reducible exact ih1 _ _ _ _ _ _ _)
      | (with_reducible exact ih2 _ _ _ _ _ _ _ _ _ _)
      | (with_reducible exact ih3 _ _ _ _ _ _ _ _ _ _ _)
      | (with_reducible exact corrallaw8_first.mono _)
      | (with_reducible exact pte_Make.mono _ _ _)
      | (with_reducible exact LeO.refl _)
      | (with_reducible exact LeO.none _)
      | (with_reducible refine LeO.ite ?_ ?_)
      | (with_reducible refine LeO.bind ?_ (fun _ => ?_))
      | exact ih0 _ _ _ _ _
      | exact ih1 _ _ _ _ _ _ _
      | exact ih2 _ _ _ _ _ _ _ _ _ _
      | exact ih3 _ _ _ _ _ _ _ _ _ _ _
      | exact corrallaw8_first.mono _
      | exact pte_Make.mono _ _ _
      | exact LeO.none _
      | refine LeO.ite ?_ ?_
      | refine LeO.bind ?_ (fun _ => ?_)
set_option maxHeartbeats 8000000 in
set_option maxRecDepth 100000 in
theorem corrallaw8_PteKinds.calls (k : Nat) (a0 : Int) (a1 : Int) (a2 : Bool) (r : Bool) (w : World) (h : corrallaw8_PteKinds.f k a0 a1 a2 = some r) :
    Calls Try.prog 4 #[.int .u32 a0, .int .i64 a1, .bool a2] w fun e w' => e = .returned (.bool r) ∧ Below w.heap.size w w' := by
  have HB := Aside0.mk (Below.refl w.heap.size w)
  have H : ((corrallaw8_first.f k).bind fun t127 => (if t127 = true then (if a2 = true then (corrallaw8_PteKinds.j0 k a0 (wrap64 ((Int.tmod (wrap64 ((Int.tmod a1 3) + 3)) 3) + 1)) a2 t127 0) else (corrallaw8_PteKinds.j0 k a0 (wrap64 ((Int.tmod (wrap64 ((Int.tmod a1 3) + 3)) 3) + 1)) a2 t127 3)) else (some false))) = some r := h
  clear h
  replace H := Option.bind_eq_some_iff.mp H
  obtain ⟨t127, A40, H⟩ := H
  replace H : (if t127 = true then (if a2 = true then (corrallaw8_PteKinds.j0 k a0 (wrap64 ((Int.tmod (wrap64 ((Int.tmod a1 3) + 3)) 3) + 1)) a2 t127 0) else (corrallaw8_PteKinds.j0 k a0 (wrap64 ((Int.tmod (wrap64 ((Int.tmod a1 3) + 3)) 3) + 1)) a2 t127 3)) else (some false)) = some r := H
  have A4 := Aside0.mk A40
  clear A40
  by_cases c5 : t127 = true
  · subst c5
    have H1 : (if a2 = true then (corrallaw8_PteKinds.j0 k a0 (wrap64 ((Int.tmod (wrap64 ((Int.tmod a1 3) + 3)) 3) + 1)) a2 true 0) else (corrallaw8_PteKinds.j0 k a0 (wrap64 ((Int.tmod (wrap64 ((Int.tmod a1 3) + 3)) 3) + 1)) a2 true 3)) = some r := by rw [if_pos rfl] at H; exact H
    clear H
    have H := H1
    clear H1
    have HC6 := Aside0.mk H
    clear H
    go_enter Try.func4, Try.ntmps4
    go_upto_if 23 with (first | ((with_reducible refine gate_callee (f := 13) rfl ?_); refine goesL_ (some 15) rfl rfl Try.func13 (by kernel_rfl) rfl #[] rfl (by (try simp only [List.map_toArray, List.map_cons, List.map_nil]); first | done | rfl | (simp only [List.length_drop, List.length_take]; rfl)) ?_; (with_reducible refine (corrallaw8_first.calls k  true _ A4.out).mono ?_); rintro e w7 ⟨rfl, hb⟩; refine ⟨_, rfl, ?_⟩; have n0_ := Aside0.mk (below_step (by repeat (first | (with_reducible first | exact HB.out | apply below_alloc | apply pw_below_drewN | apply below_drew1) | exact HB.out)) hb); clear HB; have HB := n0_; clear n0_; (try clear hb); (try clear hb2); (try clear hk); (try clear hi)))
    (try simp only [Act.put, List.setIfInBounds_toArray, List.set_cons_zero, List.set_cons_succ])
    go_cut [8] (fun v8 wc => ∃ (kq : Nat) (x8_5 : Int), v8 = .int .i64 x8_5 ∧ Aside0 (corrallaw8_PteKinds.j0 kq a0 (wrap64 ((Int.tmod (wrap64 ((Int.tmod a1 3) + 3)) 3) + 1)) a2 true x8_5 = some r) ∧ Aside0 (kq ≤ k) ∧ Aside0 (Below w.heap.size w wc))
    case first =>
      have H := HC6.out
      clear HC6
      by_cases c8 : a2 = true
      · subst c8
        have H1 : (corrallaw8_PteKinds.j0 k a0 (wrap64 ((Int.tmod (wrap64 ((Int.tmod a1 3) + 3)) 3) + 1)) true true 0) = some r := by rw [if_pos rfl] at H; exact H
        clear H
        have H := H1
        clear H1
        have H' := Aside0.mk H
        clear H
        go_wp2
        go_meet
        case rel => exact ⟨_, (0), (by first | rfl | (simp; done) | (simp [*]; done)), H', ⟨by first | omega | exact Nat.le_refl _⟩, ⟨by repeat (first | (with_reducible first | exact HB.out | apply below_alloc | apply pw_below_drewN | apply below_drew1) | exact HB.out)⟩⟩
      · replace c8 := Bool.eq_false_iff.mpr c8
        subst c8
        have H1 : (corrallaw8_PteKinds.j0 k a0 (wrap64 ((Int.tmod (wrap64 ((Int.tmod a1 3) + 3)) 3) + 1)) false true 3) = some r := by rw [if_neg (show ¬ (false = true) by decide)] at H; exact H
        clear H
        have H := H1
        clear H1
        have H' := Aside0.mk H
        clear H
        go_wp2
        go_meet
        case rel => exact ⟨_, (3), (by first | rfl | (simp; done) | (simp [*]; done)), H', ⟨by first | omega | exact Nat.le_refl _⟩, ⟨by repeat (first | (with_reducible first | exact HB.out | apply below_alloc | apply pw_below_drewN | apply below_drew1) | exact HB.out)⟩⟩
    case rest =>
      clear HC6
      try clear c1
      try clear p2
      try clear c4
      try clear c5
      try clear p6
      try clear c8
      obtain ⟨kq, x8_5, rfl, HA, HJ5, HB⟩ := hcut
      cases kq with
      | zero => exact absurd HA.out (by simp [corrallaw8_PteKinds.j0])
      | succ kj5 =>
        have H := HA.out
        clear HA
        simp only [corrallaw8_PteKinds.j0] at H
        obtain ⟨y128, hy128⟩ : ∃ y_ : List Int, y_ = (([8, 2, 4] : List Int)) := ⟨_, rfl⟩
        replace H : (if 0 ≤ (wrap64 ((wrap64 ((Int.tmod (wrap64 ((Int.tmod a1 3) + 3)) 3) + 1)) - 1)) then (if (wrap64 ((wrap64 ((Int.tmod (wrap64 ((Int.tmod a1 3) + 3)) 3) + 1)) - 1)) < (y128.length : Int) then (corrallaw8_PteKinds.l0 kj5 a0 (wrap64 ((Int.tmod (wrap64 ((Int.tmod a1 3) + 3)) 3) + 1)) a2 true x8_5 (rd y128 (wrap64 ((wrap64 ((Int.tmod (wrap64 ((Int.tmod a1 3) + 3)) 3) + 1)) - 1))) 0) else (none)) else (none)) = some r := by first | (rw [hy128]; with_reducible exact H) | (have H2_ := (Option.bind_some _ _).symm.trans H; rw [hy128]; with_reducible exact H2_) | (have H2_ := (Option.bind_some _ _).symm.trans H; with_reducible exact H2_) | with_reducible exact H | (rw [hy128]; exact H) | exact H
        have Ny128 := Aside0.mk hy128
        clear hy128
        obtain ⟨ji9, hji9⟩ : ∃ j_ : Int, (wrap64 ((wrap64 ((Int.tmod (wrap64 ((Int.tmod a1 3) + 3)) 3) + 1)) - 1)) = j_ := ⟨_, rfl⟩
        replace H : (if 0 ≤ (ji9) then (if (ji9) < (y128.length : Int) then (corrallaw8_PteKinds.l0 kj5 a0 (wrap64 ((Int.tmod (wrap64 ((Int.tmod a1 3) + 3)) 3) + 1)) a2 true x8_5 (rd y128 (ji9)) 0) else (none)) else (none)) = some r := by first | (rw [hji9] at H; exact H) | (simp only [hji9] at H ⊢; exact H)
        have hji9w : (IntKind.i64.wrap ((wrap64 ((Int.tmod (wrap64 ((Int.tmod a1 3) + 3)) 3) + 1)) - 1)) = ji9 := (i64_w _).trans hji9
        by_cases c10 : 0 ≤ (ji9)
        · rw [if_pos c10] at H
          have c10b0 : decide (0 ≤ (ji9)) = true := decide_eq_true c10
          clear c10
          by_cases c11 : (ji9) < (y128.length : Int)
          · rw [if_pos c11] at H
            have c11b0 : decide ((ji9) < (y128.length : Int)) = true := decide_eq_true c11
            clear c11
            have H' := Aside0.mk H
            clear H
            go_wp2_with (first | ((with_reducible refine gate_dst (N := 24) rfl ?_); refine Kd.R_lit (Kd.int .u32) _ 22 ?hg (N := 24) ?hd (xs := ([8, 2, 4] : List Int)) (inner := [.int .u32 8, .int .u32 2, .int .u32 4]) (ok := fun _ => True) (okp := fun _ => True) ?hr ?hp (fun _ hk => hk) trivial (Below.refl _ _) (Nat.le_refl _) (by simp) ?_; (case hd => rfl); (case hg => rfl); (case hr => first | (go_simp; done) | (go_simp; rfl)); (case hp => exact (Reps.one (show Kd.M (Kd.int .u32) _ _ _ 8 [.int .u32 8] from rfl) (Reps.one (show Kd.M (Kd.int .u32) _ _ _ 2 [.int .u32 2] from rfl) (Reps.one (show Kd.M (Kd.int .u32) _ _ _ 4 [.int .u32 4] from rfl) (Reps.none _ _))))); intro v129 w12 ho13 hb hg_ hnew_; clear hg_ hnew_; (first | rw [← Ny128.out] at ho13 | (simp only [Int.reduceToNat] at ho13; rw [← Ny128.out] at ho13)); have n0_ := Aside0.mk (Kd.R_lower ho13 (below_size (by repeat (first | (with_reducible first | exact HB.out | apply below_alloc | apply pw_below_drewN | apply below_drew1) | exact HB.out)))); have n1_ := Aside0.mk (below_step (by repeat (first | (with_reducible first | exact HB.out | apply below_alloc | apply pw_below_drewN | apply below_drew1) | exact HB.out)) hb); clear HB; have HO130 := n0_; have HB := n1_; clear n0_ n1_; clear hb ho13; obtain ⟨Ao14, co14, eo14⟩ := Kd.R_slice HO130.out; subst eo14; have p131 : 0 ≤ ((ji9) : Int) := of_decide_eq_true (by first | (with_reducible assumption) | assumption); have q131 : (ji9) < (y128.length : Int) := of_decide_eq_true (by first | (with_reducible assumption) | assumption); obtain ⟨ad131, e131, hx131_0⟩ := Kd.at_int (Kd.R_reads' HO130.out).2.2 (ji9) p131 q131; cases e131; replace p131 := eq_true p131; replace q131 := eq_true q131))
            go_loopg [10] kj5 (fun kq v10 w' => ∃ (x10_2 : Int), v10 = .int .u32 x10_2 ∧ Aside0 (corrallaw8_PteKinds.l0 kq a0 (wrap64 ((Int.tmod (wrap64 ((Int.tmod a1 3) + 3)) 3) + 1)) a2 true x8_5 (rd y128 (ji9)) x10_2 = some r) ∧ Aside0 (kq ≤ kj5) ∧ Aside0 (Below w.heap.size w w'))
            case atStart => exact ⟨(0), (by first | rfl | (simp; done) | (simp [*]; done)), H', ⟨Nat.le_refl _⟩, ⟨by repeat (first | (with_reducible first | exact HB.out | apply below_alloc | apply pw_below_drewN | apply below_drew1) | exact HB.out)⟩⟩
            case round =>
              clear H'
              try clear c1
              try clear p1
              try clear q1
              try clear hx1
              try clear p2
              try clear c4
              try clear c5
              try clear p6
              try clear c8
              try clear c10
              try clear c10b0
              try clear c11
              try clear c11b0
              try clear c13
              try clear p13
              try clear q13
              try clear hx13
              try clear hx131_0
              try clear p131
              try clear p2
              try clear p6
              try clear q131
              obtain ⟨x10_2, rfl, HA, HK2, HB⟩ := hrel
              cases gk with
              | zero => exact absurd HA.out (by simp [corrallaw8_PteKinds.l0])
              | succ k2 =>
                have H := HA.out
                clear HA
                simp only [corrallaw8_PteKinds.l0] at H
                by_cases c15 : x10_2 < 256
                · rw [if_pos c15] at H
                  have c15b0 : decide (x10_2 < 256) = true := decide_eq_true c15
                  clear c15
                  obtain ⟨y132, hy132⟩ : ∃ y_ : List Int, y_ = (([x10_2] : List Int)) := ⟨_, rfl⟩
                  replace H : ((pte_Make.f k2 a0 y132).bind fun t135 => (if (Go.bits .and .u32 x10_2 1) = 0 then (corrallaw8_PteKinds.j2 k2 a0 (wrap64 ((Int.tmod (wrap64 ((Int.tmod a1 3) + 3)) 3) + 1)) a2 true x8_5 (rd y128 (ji9)) x10_2 t135 (Go.bits .and .u32 x10_2 10) true) else (if (Go.bits .and .u32 x10_2 4) = 0 then (if (Go.bits .and .u32 x10_2 10) = 0 then (corrallaw8_PteKinds.j2 k2 a0 (wrap64 ((Int.tmod (wrap64 ((Int.tmod a1 3) + 3)) 3) + 1)) a2 true x8_5 (rd y128 (ji9)) x10_2 t135 (Go.bits .and .u32 x10_2 10) ((Go.bits .and .u32 x10_2 208) != 0)) else (corrallaw8_PteKinds.j2 k2 a0 (wrap64 ((Int.tmod (wrap64 ((Int.tmod a1 3) + 3)) 3) + 1)) a2 true x8_5 (rd y128 (ji9)) x10_2 t135 (Go.bits .and .u32 x10_2 10) false)) else (if (Go.bits .and .u32 x10_2 2) = 0 then (corrallaw8_PteKinds.j2 k2 a0 (wrap64 ((Int.tmod (wrap64 ((Int.tmod a1 3) + 3)) 3) + 1)) a2 true x8_5 (rd y128 (ji9)) x10_2 t135 (Go.bits .and .u32 x10_2 10) true) else (if (Go.bits .and .u32 x10_2 10) = 0 then (corrallaw8_PteKinds.j2 k2 a0 (wrap64 ((Int.tmod (wrap64 ((Int.tmod a1 3) + 3)) 3) + 1)) a2 true x8_5 (rd y128 (ji9)) x10_2 t135 (Go.bits .and .u32 x10_2 10) ((Go.bits .and .u32 x10_2 208) != 0)) else (corrallaw8_PteKinds.j2 k2 a0 (wrap64 ((Int.tmod (wrap64 ((Int.tmod a1 3) + 3)) 3) + 1)) a2 true x8_5 (rd y128 (ji9)) x10_2 t135 (Go.bits .and .u32 x10_2 10) false)))))) = some r := by first | (rw [hy132]; with_reducible exact H) | (have H2_ := (Option.bind_some _ _).symm.trans H; rw [hy132]; with_reducible exact H2_) | (have H2_ := (Option.bind_some _ _).symm.trans H; with_reducible exact H2_) | with_reducible exact H | (rw [hy132]; exact H) | exact H
                  have Ny132 := Aside0.mk hy132
                  clear hy132
                  replace H := Option.bind_eq_some_iff.mp H
                  obtain ⟨t135, A160, H⟩ := H
                  replace H : (if (Go.bits .and .u32 x10_2 1) = 0 then (corrallaw8_PteKinds.j2 k2 a0 (wrap64 ((Int.tmod (wrap64 ((Int.tmod a1 3) + 3)) 3) + 1)) a2 true x8_5 (rd y128 (ji9)) x10_2 t135 (Go.bits .and .u32 x10_2 10) true) else (if (Go.bits .and .u32 x10_2 4) = 0 then (if (Go.bits .and .u32 x10_2 10) = 0 then (corrallaw8_PteKinds.j2 k2 a0 (wrap64 ((Int.tmod (wrap64 ((Int.tmod a1 3) + 3)) 3) + 1)) a2 true x8_5 (rd y128 (ji9)) x10_2 t135 (Go.bits .and .u32 x10_2 10) ((Go.bits .and .u32 x10_2 208) != 0)) else (corrallaw8_PteKinds.j2 k2 a0 (wrap64 ((Int.tmod (wrap64 ((Int.tmod a1 3) + 3)) 3) + 1)) a2 true x8_5 (rd y128 (ji9)) x10_2 t135 (Go.bits .and .u32 x10_2 10) false)) else (if (Go.bits .and .u32 x10_2 2) = 0 then (corrallaw8_PteKinds.j2 k2 a0 (wrap64 ((Int.tmod (wrap64 ((Int.tmod a1 3) + 3)) 3) + 1)) a2 true x8_5 (rd y128 (ji9)) x10_2 t135 (Go.bits .and .u32 x10_2 10) true) else (if (Go.bits .and .u32 x10_2 10) = 0 then (corrallaw8_PteKinds.j2 k2 a0 (wrap64 ((Int.tmod (wrap64 ((Int.tmod a1 3) + 3)) 3) + 1)) a2 true x8_5 (rd y128 (ji9)) x10_2 t135 (Go.bits .and .u32 x10_2 10) ((Go.bits .and .u32 x10_2 208) != 0)) else (corrallaw8_PteKinds.j2 k2 a0 (wrap64 ((Int.tmod (wrap64 ((Int.tmod a1 3) + 3)) 3) + 1)) a2 true x8_5 (rd y128 (ji9)) x10_2 t135 (Go.bits .and .u32 x10_2 10) false))))) = some r := H
                  have A16 := Aside0.mk A160
                  clear A160
                  have HC17 := Aside0.mk H
                  clear H
                  go_upto_region 14 with (first | ((with_reducible refine gate_dst (N := 35) rfl ?_); refine Kd.R_lit (Kd.int .u32) _ 22 ?hg (N := 35) ?hd (xs := ([x10_2] : List Int)) (inner := [.int .u32 x10_2]) (ok := fun _ => True) (okp := fun _ => True) ?hr ?hp (fun _ hk => hk) trivial (Below.refl _ _) (Nat.le_refl _) (by simp) ?_; (case hd => rfl); (case hg => rfl); (case hr => first | (go_simp; done) | (go_simp; rfl)); (case hp => exact (Reps.one (show Kd.M (Kd.int .u32) _ _ _ x10_2 [.int .u32 x10_2] from rfl) (Reps.none _ _))); intro v133 w18 ho19 hb hg_ hnew_; clear hg_ hnew_; (first | rw [← Ny132.out] at ho19 | (simp only [Int.reduceToNat] at ho19; rw [← Ny132.out] at ho19)); have n0_ := Aside0.mk (Kd.R_lower ho19 (below_size (by repeat (first | (with_reducible first | exact HB.out | apply below_alloc | apply pw_below_drewN | apply below_drew1) | exact HB.out)))); have n1_ := Aside0.mk (below_step (by repeat (first | (with_reducible first | exact HB.out | apply below_alloc | apply pw_below_drewN | apply below_drew1) | exact HB.out)) hb); clear HB; have HO134 := n0_; have HB := n1_; clear n0_ n1_; clear hb ho19; obtain ⟨Ao20, co20, eo20⟩ := Kd.R_slice HO134.out; subst eo20) | ((with_reducible refine gate_callee (f := 17) rfl ?_); refine goesL_ (some 36) rfl rfl Try.func17 (by kernel_rfl) rfl #[.int .u32 a0, .slice Ao20 y132.length co20] rfl (by (try simp only [List.map_toArray, List.map_cons, List.map_nil]); first | done | rfl | (simp only [List.length_drop, List.length_take]; rfl)) ?_; (with_reducible refine (pte_Make.calls k2 a0 _ _ y132 t135 _ ?side1 ?side2 A16.out).mono ?_); (case side1 => repeat (first | exact (Kd.R_reads' HO134.out).2.2 | (with_reducible refine Kd.C_alloc ?_ _) | (with_reducible refine Kd.C_drewN ?_ _) | (with_reducible refine Kd.C_drew ?_))); (case side2 => exact (Kd.R_reads' HO134.out).2.1); rintro e w21 ⟨rfl, hb⟩; refine ⟨_, rfl, ?_⟩; have n0_ := Aside0.mk (Kd.R_below (by (with_reducible repeat (first | apply Kd.R_alloc | apply Kd.R_drewN | apply Kd.R_drew)); exact HO134.out) hb); have n1_ := Aside0.mk (below_step (by repeat (first | (with_reducible first | exact HB.out | apply below_alloc | apply pw_below_drewN | apply below_drew1) | exact HB.out)) hb); clear HO134; clear HB; have HO134 := n0_; have HB := n1_; clear n0_ n1_; (try clear hb); (try clear hb2); (try clear hk); (try clear hi)))
                  (try simp only [Act.put, List.setIfInBounds_toArray, List.set_cons_zero, List.set_cons_succ])
                  go_cut [13] (fun v13 wc => ∃ (kq : Nat) (x13_16 : Bool), v13 = .bool x13_16 ∧ Aside0 (corrallaw8_PteKinds.j2 kq a0 (wrap64 ((Int.tmod (wrap64 ((Int.tmod a1 3) + 3)) 3) + 1)) a2 true x8_5 (rd y128 (ji9)) x10_2 t135 (Go.bits .and .u32 x10_2 10) x13_16 = some r) ∧ Aside0 (kq ≤ k2) ∧ Aside0 (Below w.heap.size w wc))
                  case first =>
                    have H := HC17.out
                    clear HC17
                    by_cases c22 : (Go.bits .and .u32 x10_2 1) = 0
                    · rw [if_pos c22] at H
                      have c22b0 : ((Go.bits .and .u32 x10_2 1) == 0) = true := beq_iff_eq.mpr c22
                      have c22b1 : ((Go.bits .and .u32 x10_2 1) != 0) = false := bne_eq_false_iff_eq.mpr c22
                      clear c22
                      (first | rw [c22b0] | (simp only [i64_w, i32_w]; rw [c22b0]) | skip)
                      have H' := Aside0.mk H
                      clear H
                      go_wp2
                      go_meet
                      case rel => exact ⟨_, (true), (by first | rfl | (simp; done) | (simp [*]; done)), H', ⟨by have := HJ5.out; have := HK2.out; first | omega | exact Nat.le_refl _⟩, ⟨by repeat (first | (with_reducible first | exact HB.out | apply below_alloc | apply pw_below_drewN | apply below_drew1) | exact HB.out)⟩⟩
                    · rw [if_neg c22] at H
                      have c22b0 : ((Go.bits .and .u32 x10_2 1) == 0) = false := beq_eq_false_iff_ne.mpr c22
                      have c22b1 : ((Go.bits .and .u32 x10_2 1) != 0) = true := bne_iff_ne.mpr c22
                      (first | rw [c22b0] | (simp only [i64_w, i32_w]; rw [c22b0]) | skip)
                      by_cases c23 : (Go.bits .and .u32 x10_2 4) = 0
                      · rw [if_pos c23] at H
                        have c23b0 : ((Go.bits .and .u32 x10_2 4) == 0) = true := beq_iff_eq.mpr c23
                        have c23b1 : ((Go.bits .and .u32 x10_2 4) != 0) = false := bne_eq_false_iff_eq.mpr c23
                        clear c23
                        by_cases c24 : (Go.bits .and .u32 x10_2 10) = 0
                        · rw [if_pos c24] at H
                          have c24b0 : ((Go.bits .and .u32 x10_2 10) == 0) = true := beq_iff_eq.mpr c24
                          have c24b1 : ((Go.bits .and .u32 x10_2 10) != 0) = false := bne_eq_false_iff_eq.mpr c24
                          clear c24
                          have H' := Aside0.mk H
                          clear H
                          go_wp2
                          go_meet
                          case rel => exact ⟨_, (((Go.bits .and .u32 x10_2 208) != 0)), (by first | rfl | (simp; done) | (simp [*]; done)), H', ⟨by have := HJ5.out; have := HK2.out; first | omega | exact Nat.le_refl _⟩, ⟨by repeat (first | (with_reducible first | exact HB.out | apply below_alloc | apply pw_below_drewN | apply below_drew1) | exact HB.out)⟩⟩
                        · rw [if_neg c24] at H
                          have c24b0 : ((Go.bits .and .u32 x10_2 10) == 0) = false := beq_eq_false_iff_ne.mpr c24
                          have c24b1 : ((Go.bits .and .u32 x10_2 10) != 0) = true := bne_iff_ne.mpr c24
                          have H' := Aside0.mk H
                          clear H
                          go_wp2
                          go_meet
                          case rel => exact ⟨_, (false), (by first | rfl | (simp; done) | (simp [*]; done)), H', ⟨by have := HJ5.out; have := HK2.out; first | omega | exact Nat.le_refl _⟩, ⟨by repeat (first | (with_reducible first | exact HB.out | apply below_alloc | apply pw_below_drewN | apply below_drew1) | exact HB.out)⟩⟩
                      · rw [if_neg c23] at H
                        have c23b0 : ((Go.bits .and .u32 x10_2 4) == 0) = false := beq_eq_false_iff_ne.mpr c23
                        have c23b1 : ((Go.bits .and .u32 x10_2 4) != 0) = true := bne_iff_ne.mpr c23
                        by_cases c25 : (Go.bits .and .u32 x10_2 2) = 0
                        · rw [if_pos c25] at H
                          have c25b0 : ((Go.bits .and .u32 x10_2 2) == 0) = true := beq_iff_eq.mpr c25
                          have c25b1 : ((Go.bits .and .u32 x10_2 2) != 0) = false := bne_eq_false_iff_eq.mpr c25
                          clear c25
                          have H' := Aside0.mk H
                          clear H
                          go_wp2
                          go_meet
                          case rel => exact ⟨_, (true), (by first | rfl | (simp; done) | (simp [*]; done)), H', ⟨by have := HJ5.out; have := HK2.out; first | omega | exact Nat.le_refl _⟩, ⟨by repeat (first | (with_reducible first | exact HB.out | apply below_alloc | apply pw_below_drewN | apply below_drew1) | exact HB.out)⟩⟩
                        · rw [if_neg c25] at H
                          have c25b0 : ((Go.bits .and .u32 x10_2 2) == 0) = false := beq_eq_false_iff_ne.mpr c25
                          have c25b1 : ((Go.bits .and .u32 x10_2 2) != 0) = true := bne_iff_ne.mpr c25
                          by_cases c26 : (Go.bits .and .u32 x10_2 10) = 0
                          · rw [if_pos c26] at H
                            have c26b0 : ((Go.bits .and .u32 x10_2 10) == 0) = true := beq_iff_eq.mpr c26
                            have c26b1 : ((Go.bits .and .u32 x10_2 10) != 0) = false := bne_eq_false_iff_eq.mpr c26
                            clear c26
                            have H' := Aside0.mk H
                            clear H
                            go_wp2
                            go_meet
                            case rel => exact ⟨_, (((Go.bits .and .u32 x10_2 208) != 0)), (by first | rfl | (simp; done) | (simp [*]; done)), H', ⟨by have := HJ5.out; have := HK2.out; first | omega | exact Nat.le_refl _⟩, ⟨by repeat (first | (with_reducible first | exact HB.out | apply below_alloc | apply pw_below_drewN | apply below_drew1) | exact HB.out)⟩⟩
                          · rw [if_neg c26] at H
                            have c26b0 : ((Go.bits .and .u32 x10_2 10) == 0) = false := beq_eq_false_iff_ne.mpr c26
                            have c26b1 : ((Go.bits .and .u32 x10_2 10) != 0) = true := bne_iff_ne.mpr c26
                            have H' := Aside0.mk H
                            clear H
                            go_wp2
                            go_meet
                            case rel => exact ⟨_, (false), (by first | rfl | (simp; done) | (simp [*]; done)), H', ⟨by have := HJ5.out; have := HK2.out; first | omega | exact Nat.le_refl _⟩, ⟨by repeat (first | (with_reducible first | exact HB.out | apply below_alloc | apply pw_below_drewN | apply below_drew1) | exact HB.out)⟩⟩
                  case rest =>
                    clear HC17
                    try clear c1
                    try clear p1
                    try clear q1
                    try clear hx1
                    try clear c2
                    try clear p2
                    try clear c4
                    try clear c5
                    try clear p6
                    try clear c8
                    try clear c10
                    try clear c10b0
                    try clear c11
                    try clear c11b0
                    try clear c13
                    try clear p13
                    try clear q13
                    try clear hx13
                    try clear c15
                    try clear c15b0
                    try clear c17
                    try clear c22
                    try clear c22b0
                    try clear c22b1
                    try clear c23
                    try clear c23b0
                    try clear c23b1
                    try clear c24
                    try clear c24b0
                    try clear c24b1
                    try clear c25
                    try clear c25b0
                    try clear c25b1
                    try clear c26
                    try clear c26b0
                    try clear c26b1
                    try clear hx131_0
                    try clear p1
                    try clear p13
                    try clear p131
                    try clear p2
                    try clear p6
                    try clear q1
                    try clear q13
                    try clear q131
                    obtain ⟨kq, x13_16, rfl, HA, HJ16, HB⟩ := hcut
                    cases kq with
                    | zero => exact absurd HA.out (by simp [corrallaw8_PteKinds.j2])
                    | succ kj16 =>
                      have H := HA.out
                      clear HA
                      simp only [corrallaw8_PteKinds.j2] at H
                      have HC27 := Aside0.mk H
                      clear H
                      go_upto_region 15 with (fail)
                      go_cut [14] (fun v14 wc => ∃ (kq : Nat) (x14_26 : Bool), v14 = .bool x14_26 ∧ Aside0 (corrallaw8_PteKinds.j3 kq a0 (wrap64 ((Int.tmod (wrap64 ((Int.tmod a1 3) + 3)) 3) + 1)) a2 true x8_5 (rd y128 (ji9)) x10_2 t135 (Go.bits .and .u32 x10_2 10) x13_16 x14_26 = some r) ∧ Aside0 (kq ≤ kj16) ∧ Aside0 (Below w.heap.size w wc))
                      case first =>
                        have H := HC27.out
                        clear HC27
                        by_cases c28 : x13_16 = true
                        · subst c28
                          have H1 : (corrallaw8_PteKinds.j3 kj16 a0 (wrap64 ((Int.tmod (wrap64 ((Int.tmod a1 3) + 3)) 3) + 1)) a2 true x8_5 (rd y128 (ji9)) x10_2 t135 (Go.bits .and .u32 x10_2 10) true false) = some r := by rw [if_pos rfl] at H; exact H
                          clear H
                          have H := H1
                          clear H1
                          have H' := Aside0.mk H
                          clear H
                          go_wp2
                          go_meet
                          case rel => exact ⟨_, (false), (by first | rfl | (simp; done) | (simp [*]; done)), H', ⟨by have := HJ5.out; have := HK2.out; have := HJ16.out; first | omega | exact Nat.le_refl _⟩, ⟨by repeat (first | (with_reducible first | exact HB.out | apply below_alloc | apply pw_below_drewN | apply below_drew1) | exact HB.out)⟩⟩
                        · replace c28 := Bool.eq_false_iff.mpr c28
                          subst c28
                          have H1 : (if (Go.bits .and .u32 x10_2 10) = 0 then (corrallaw8_PteKinds.j3 kj16 a0 (wrap64 ((Int.tmod (wrap64 ((Int.tmod a1 3) + 3)) 3) + 1)) a2 true x8_5 (rd y128 (ji9)) x10_2 t135 (Go.bits .and .u32 x10_2 10) false false) else (if (Go.bits .and .u32 x10_2 (rd y128 (ji9))) = 0 then (corrallaw8_PteKinds.j3 kj16 a0 (wrap64 ((Int.tmod (wrap64 ((Int.tmod a1 3) + 3)) 3) + 1)) a2 true x8_5 (rd y128 (ji9)) x10_2 t135 (Go.bits .and .u32 x10_2 10) false false) else (corrallaw8_PteKinds.j3 kj16 a0 (wrap64 ((Int.tmod (wrap64 ((Int.tmod a1 3) + 3)) 3) + 1)) a2 true x8_5 (rd y128 (ji9)) x10_2 t135 (Go.bits .and .u32 x10_2 10) false (((Go.bits .and .u32 x10_2 16) != 0) == a2)))) = some r := by rw [if_neg (show ¬ (false = true) by decide)] at H; exact H
                          clear H
                          have H := H1
                          clear H1
                          by_cases c29 : (Go.bits .and .u32 x10_2 10) = 0
                          · rw [if_pos c29] at H
                            have c29b0 : ((Go.bits .and .u32 x10_2 10) == 0) = true := beq_iff_eq.mpr c29
                            have c29b1 : ((Go.bits .and .u32 x10_2 10) != 0) = false := bne_eq_false_iff_eq.mpr c29
                            clear c29
                            (first | rw [c29b0] | (simp only [i64_w, i32_w]; rw [c29b0]) | skip)
                            have H' := Aside0.mk H
                            clear H
                            go_wp2
                            go_meet
                            case rel => exact ⟨_, (false), (by first | rfl | (simp; done) | (simp [*]; done)), H', ⟨by have := HJ5.out; have := HK2.out; have := HJ16.out; first | omega | exact Nat.le_refl _⟩, ⟨by repeat (first | (with_reducible first | exact HB.out | apply below_alloc | apply pw_below_drewN | apply below_drew1) | exact HB.out)⟩⟩
                          · rw [if_neg c29] at H
                            have c29b0 : ((Go.bits .and .u32 x10_2 10) == 0) = false := beq_eq_false_iff_ne.mpr c29
                            have c29b1 : ((Go.bits .and .u32 x10_2 10) != 0) = true := bne_iff_ne.mpr c29
                            (first | rw [c29b0] | (simp only [i64_w, i32_w]; rw [c29b0]) | skip)
                            by_cases c30 : (Go.bits .and .u32 x10_2 (rd y128 (ji9))) = 0
                            · rw [if_pos c30] at H
                              have c30b0 : ((Go.bits .and .u32 x10_2 (rd y128 (ji9))) == 0) = true := beq_iff_eq.mpr c30
                              have c30b1 : ((Go.bits .and .u32 x10_2 (rd y128 (ji9))) != 0) = false := bne_eq_false_iff_eq.mpr c30
                              clear c30
                              have H' := Aside0.mk H
                              clear H
                              go_wp2
                              go_meet
                              case rel => exact ⟨_, (false), (by first | rfl | (simp; done) | (simp [*]; done)), H', ⟨by have := HJ5.out; have := HK2.out; have := HJ16.out; first | omega | exact Nat.le_refl _⟩, ⟨by repeat (first | (with_reducible first | exact HB.out | apply below_alloc | apply pw_below_drewN | apply below_drew1) | exact HB.out)⟩⟩
                            · rw [if_neg c30] at H
                              have c30b0 : ((Go.bits .and .u32 x10_2 (rd y128 (ji9))) == 0) = false := beq_eq_false_iff_ne.mpr c30
                              have c30b1 : ((Go.bits .and .u32 x10_2 (rd y128 (ji9))) != 0) = true := bne_iff_ne.mpr c30
                              have H' := Aside0.mk H
                              clear H
                              go_wp2
                              go_meet
                              case rel => exact ⟨_, ((((Go.bits .and .u32 x10_2 16) != 0) == a2)), (by first | rfl | (simp; done) | (simp [*]; done)), H', ⟨by have := HJ5.out; have := HK2.out; have := HJ16.out; first | omega | exact Nat.le_refl _⟩, ⟨by repeat (first | (with_reducible first | exact HB.out | apply below_alloc | apply pw_below_drewN | apply below_drew1) | exact HB.out)⟩⟩
                      case rest =>
                        clear HC27
                        try clear c1
                        try clear p1
                        try clear q1
                        try clear hx1
                        try clear c2
                        try clear p2
                        try clear c3
                        try clear c4
                        try clear c5
                        try clear p6
                        try clear c8
                        try clear c10
                        try clear c10b0
                        try clear c11
                        try clear c11b0
                        try clear c13
                        try clear p13
                        try clear q13
                        try clear hx13
                        try clear c15
                        try clear c15b0
                        try clear c17
                        try clear c22
                        try clear c22b0
                        try clear c22b1
                        try clear c23
                        try clear c23b0
                        try clear c23b1
                        try clear c24
                        try clear c24b0
                        try clear c24b1
                        try clear c25
                        try clear c25b0
                        try clear c25b1
                        try clear c26
                        try clear c26b0
                        try clear c26b1
                        try clear c28
                        try clear c29
                        try clear c29b0
                        try clear c29b1
                        try clear c30
                        try clear c30b0
                        try clear c30b1
                        try clear hx131_0
                        try clear p1
                        try clear p13
                        try clear p131
                        try clear p2
                        try clear p6
                        try clear q1
                        try clear q13
                        try clear q131
                        obtain ⟨kq, x14_26, rfl, HA, HJ26, HB⟩ := hcut
                        cases kq with
                        | zero => exact absurd HA.out (by simp [corrallaw8_PteKinds.j3])
                        | succ kj26 =>
                          have H := HA.out
                          clear HA
                          simp only [corrallaw8_PteKinds.j3] at H
                          replace H := Option.bind_eq_some_iff.mp H
                          obtain ⟨t136, A310, H⟩ := H
                          replace H : (if (t136 != x13_16) = true then (some false) else ((pte_Leaf.f t135).bind fun t137 => (if (t137 != ((Go.bits .and .u32 x10_2 10) != 0)) = true then (some false) else ((pte_May.f t135 (wrap64 ((Int.tmod (wrap64 ((Int.tmod a1 3) + 3)) 3) + 1)) x8_5).bind fun t138 => (if (t138 != x14_26) = true then (some false) else (corrallaw8_PteKinds.l0 kj26 a0 (wrap64 ((Int.tmod (wrap64 ((Int.tmod a1 3) + 3)) 3) + 1)) a2 true x8_5 (rd y128 (ji9)) ((x10_2 + 1) % 4294967296))))))) = some r := H
                          have A31 := Aside0.mk A310
                          clear A310
                          by_cases c32 : (t136 != x13_16) = true
                          · rw [if_pos c32] at H
                            have c32b0 : (t136 != x13_16) = true := c32
                            (try (have c32b1 : decide (t136 = x13_16) = false := by simpa using c32))
                            (try (have c32b2 : (t136 == x13_16) = false := by simpa using c32))
                            (try (have c32b3 : ¬ (t136 = x13_16) := by simpa using c32))
                            clear c32
                            obtain rfl := Option.some.inj H
                            go_wp2_with (first | ((with_reducible refine gate_callee (f := 15) rfl ?_); refine goesL_ (some 81) rfl rfl Try.func15 (by kernel_rfl) rfl #[.int .u32 t135] rfl (by (try simp only [List.map_toArray, List.map_cons, List.map_nil]); first | done | rfl | (simp only [List.length_drop, List.length_take]; rfl)) ?_; (with_reducible refine (pte_Bad.calls t135 t136 _ A31.out).mono ?_); rintro e w' ⟨rfl, ⟨nd, rfl⟩⟩; refine ⟨_, rfl, ?_⟩))
                            go_ret
                            exact ⟨by first | rfl | (simp [errW_none, errW_some] <;> rfl) | (simp only [← hji9]; first | rfl | (simp [errW_none, errW_some] <;> rfl)) | (simp [*, errW_none, errW_some] <;> rfl), by repeat (first | (with_reducible first | exact HB.out | apply below_alloc | apply pw_below_drewN | apply below_drew1) | exact HB.out)⟩
                          · rw [if_neg c32] at H
                            have c32b0 : (t136 != x13_16) = false := by simpa using c32
                            (try (have c32b1 : decide (t136 = x13_16) = true := by simpa using c32))
                            (try (have c32b2 : (t136 == x13_16) = true := by simpa using c32))
                            clear c32
                            replace H := Option.bind_eq_some_iff.mp H
                            obtain ⟨t137, A330, H⟩ := H
                            replace H : (if (t137 != ((Go.bits .and .u32 x10_2 10) != 0)) = true then (some false) else ((pte_May.f t135 (wrap64 ((Int.tmod (wrap64 ((Int.tmod a1 3) + 3)) 3) + 1)) x8_5).bind fun t138 => (if (t138 != x14_26) = true then (some false) else (corrallaw8_PteKinds.l0 kj26 a0 (wrap64 ((Int.tmod (wrap64 ((Int.tmod a1 3) + 3)) 3) + 1)) a2 true x8_5 (rd y128 (ji9)) ((x10_2 + 1) % 4294967296))))) = some r := H
                            have A33 := Aside0.mk A330
                            clear A330
                            by_cases c34 : (t137 != ((Go.bits .and .u32 x10_2 10) != 0)) = true
                            · rw [if_pos c34] at H
                              have c34b0 : (t137 != ((Go.bits .and .u32 x10_2 10) != 0)) = true := c34
                              (try (have c34b1 : decide (t137 = ((Go.bits .and .u32 x10_2 10) != 0)) = false := by simpa using c34))
                              (try (have c34b2 : (t137 == ((Go.bits .and .u32 x10_2 10) != 0)) = false := by simpa using c34))
                              (try (have c34b3 : ¬ (t137 = ((Go.bits .and .u32 x10_2 10) != 0)) := by simpa using c34))
                              clear c34
                              obtain rfl := Option.some.inj H
                              go_wp2_with (first | ((with_reducible refine gate_callee (f := 15) rfl ?_); refine goesL_ (some 81) rfl rfl Try.func15 (by kernel_rfl) rfl #[.int .u32 t135] rfl (by (try simp only [List.map_toArray, List.map_cons, List.map_nil]); first | done | rfl | (simp only [List.length_drop, List.length_take]; rfl)) ?_; (with_reducible refine (pte_Bad.calls t135 t136 _ A31.out).mono ?_); rintro e w' ⟨rfl, ⟨nd, rfl⟩⟩; refine ⟨_, rfl, ?_⟩) | (go_at_call 16; (with_reducible refine (pte_Leaf.calls t135 t137 _ A33.out).mono ?_); rintro e w' ⟨rfl, ⟨nd, rfl⟩⟩))
                              go_ret
                              exact ⟨by first | rfl | (simp [errW_none, errW_some] <;> rfl) | (simp only [← hji9]; first | rfl | (simp [errW_none, errW_some] <;> rfl)) | (simp [*, errW_none, errW_some] <;> rfl), by repeat (first | (with_reducible first | exact HB.out | apply below_alloc | apply pw_below_drewN | apply below_drew1) | exact HB.out)⟩
                            · rw [if_neg c34] at H
                              have c34b0 : (t137 != ((Go.bits .and .u32 x10_2 10) != 0)) = false := by simpa using c34
                              (try (have c34b1 : decide (t137 = ((Go.bits .and .u32 x10_2 10) != 0)) = true := by simpa using c34))
                              (try (have c34b2 : (t137 == ((Go.bits .and .u32 x10_2 10) != 0)) = true := by simpa using c34))
                              clear c34
                              replace H := Option.bind_eq_some_iff.mp H
                              obtain ⟨t138, A350, H⟩ := H
                              replace H : (if (t138 != x14_26) = true then (some false) else (corrallaw8_PteKinds.l0 kj26 a0 (wrap64 ((Int.tmod (wrap64 ((Int.tmod a1 3) + 3)) 3) + 1)) a2 true x8_5 (rd y128 (ji9)) ((x10_2 + 1) % 4294967296))) = some r := H
                              have A35 := Aside0.mk A350
                              clear A350
                              by_cases c36 : (t138 != x14_26) = true
                              · rw [if_pos c36] at H
                                have c36b0 : (t138 != x14_26) = true := c36
                                (try (have c36b1 : decide (t138 = x14_26) = false := by simpa using c36))
                                (try (have c36b2 : (t138 == x14_26) = false := by simpa using c36))
                                (try (have c36b3 : ¬ (t138 = x14_26) := by simpa using c36))
                                clear c36
                                obtain rfl := Option.some.inj H
                                go_wp2_with (first | ((with_reducible refine gate_callee (f := 15) rfl ?_); refine goesL_ (some 81) rfl rfl Try.func15 (by kernel_rfl) rfl #[.int .u32 t135] rfl (by (try simp only [List.map_toArray, List.map_cons, List.map_nil]); first | done | rfl | (simp only [List.length_drop, List.length_take]; rfl)) ?_; (with_reducible refine (pte_Bad.calls t135 t136 _ A31.out).mono ?_); rintro e w' ⟨rfl, ⟨nd, rfl⟩⟩; refine ⟨_, rfl, ?_⟩) | (go_at_call 16; (with_reducible refine (pte_Leaf.calls t135 t137 _ A33.out).mono ?_); rintro e w' ⟨rfl, ⟨nd, rfl⟩⟩) | (go_at_call 14; (with_reducible refine (pte_May.calls t135 (wrap64 ((Int.tmod (wrap64 ((Int.tmod a1 3) + 3)) 3) + 1)) x8_5 t138 _ A35.out).mono ?_); rintro e w' ⟨rfl, ⟨nd, rfl⟩⟩))
                                go_ret
                                exact ⟨by first | rfl | (simp [errW_none, errW_some] <;> rfl) | (simp only [← hji9]; first | rfl | (simp [errW_none, errW_some] <;> rfl)) | (simp [*, errW_none, errW_some] <;> rfl), by repeat (first | (with_reducible first | exact HB.out | apply below_alloc | apply pw_below_drewN | apply below_drew1) | exact HB.out)⟩
                              · rw [if_neg c36] at H
                                have c36b0 : (t138 != x14_26) = false := by simpa using c36
                                (try (have c36b1 : decide (t138 = x14_26) = true := by simpa using c36))
                                (try (have c36b2 : (t138 == x14_26) = true := by simpa using c36))
                                clear c36
                                have H' := Aside0.mk H
                                clear H
                                go_wp2_with (first | ((with_reducible refine gate_callee (f := 15) rfl ?_); refine goesL_ (some 81) rfl rfl Try.func15 (by kernel_rfl) rfl #[.int .u32 t135] rfl (by (try simp only [List.map_toArray, List.map_cons, List.map_nil]); first | done | rfl | (simp only [List.length_drop, List.length_take]; rfl)) ?_; (with_reducible refine (pte_Bad.calls t135 t136 _ A31.out).mono ?_); rintro e w' ⟨rfl, ⟨nd, rfl⟩⟩; refine ⟨_, rfl, ?_⟩) | (go_at_call 16; (with_reducible refine (pte_Leaf.calls t135 t137 _ A33.out).mono ?_); rintro e w' ⟨rfl, ⟨nd, rfl⟩⟩) | (go_at_call 14; (with_reducible refine (pte_May.calls t135 (wrap64 ((Int.tmod (wrap64 ((Int.tmod a1 3) + 3)) 3) + 1)) x8_5 t138 _ A35.out).mono ?_); rintro e w' ⟨rfl, ⟨nd, rfl⟩⟩))
                                go_roundg kj26
                                case measure => have := HJ5.out; have := HK2.out; have := HJ16.out; have := HJ26.out; omega
                                case rel => exact ⟨((x10_2 + 1) % 4294967296), (by first | rfl | (simp; done) | (simp [*]; done)), H', ⟨by have := HJ5.out; have := HK2.out; have := HJ16.out; have := HJ26.out; omega⟩, ⟨by repeat (first | (with_reducible first | exact HB.out | apply below_alloc | apply pw_below_drewN | apply below_drew1) | exact HB.out)⟩⟩
                · rw [if_neg c15] at H
                  have c15b0 : decide (x10_2 < 256) = false := decide_eq_false c15
                  clear c15
                  obtain rfl := Option.some.inj H
                  go_wp2
                  go_ret
                  exact ⟨by first | rfl | (simp [errW_none, errW_some] <;> rfl) | (simp only [← hji9]; first | rfl | (simp [errW_none, errW_some] <;> rfl)) | (simp [*, errW_none, errW_some] <;> rfl), by repeat (first | (with_reducible first | exact HB.out | apply below_alloc | apply pw_below_drewN | apply below_drew1) | exact HB.out)⟩
          · rw [if_neg c11] at H
            exact absurd H (by simp)
        · rw [if_neg c10] at H
          exact absurd H (by simp)
  · replace c5 := Bool.eq_false_iff.mpr c5
    subst c5
    have H1 : (some false) = some r := by rw [if_neg (show ¬ (false = true) by decide)] at H; exact H
    clear H
    have H := H1
    clear H1
    obtain rfl := Option.some.inj H
    go_enter Try.func4, Try.ntmps4
    go_wp2_with (first | ((with_reducible refine gate_callee (f := 13) rfl ?_); refine goesL_ (some 15) rfl rfl Try.func13 (by kernel_rfl) rfl #[] rfl (by (try simp only [List.map_toArray, List.map_cons, List.map_nil]); first | done | rfl | (simp only [List.length_drop, List.length_take]; rfl)) ?_; (with_reducible refine (corrallaw8_first.calls k  false _ A4.out).mono ?_); rintro e w37 ⟨rfl, hb⟩; refine ⟨_, rfl, ?_⟩; have n0_ := Aside0.mk (below_step (by repeat (first | (with_reducible first | exact HB.out | apply below_alloc | apply pw_below_drewN | apply below_drew1) | exact HB.out)) hb); clear HB; have HB := n0_; clear n0_; (try clear hb); (try clear hb2); (try clear hk); (try clear hi)))
    go_ret
    exact ⟨by first | rfl | (simp [errW_none, errW_some] <;> rfl) | (simp [*, errW_none, errW_some] <;> rfl), by repeat (first | (with_reducible first | exact HB.out | apply below_alloc | apply pw_below_drewN | apply below_drew1) | exact HB.out)⟩

/-- THE ONE PURE STATEMENT of corrallaw8_PteKinds: yours. -/
def corrallaw8_PteKinds.Pure : Prop := ∀ (a0 : Int) (a1 : Int) (a2 : Bool), (Lit.int .u32 a0).wf = true → (Lit.int .i64 a1).wf = true → ∃ k, corrallaw8_PteKinds.f k a0 a1 a2 = some true
theorem corrallaw8_PteKinds.walk (P : corrallaw8_PteKinds.Pure) (a0 : Int) (a1 : Int) (a2 : Bool) (w : World) (w0 : (Lit.int .u32 a0).wf = true) (w1 : (Lit.int .i64 a1).wf = true) :
    Calls Try.prog 4 #[.int .u32 a0, .int .i64 a1, .bool a2] w fun e w' => e = .returned (.bool true) ∧ Below w.heap.size w w' := by
  obtain ⟨k, h⟩ := P a0 a1 a2 w0 w1
  refine (corrallaw8_PteKinds.calls k a0 a1 a2 true w h).mono ?_
  rintro e w' ⟨rfl, hd⟩
  exact ⟨rfl, hd⟩

end Go.Proofs.Ythpaieglgjjbiaa.QPteKinds
