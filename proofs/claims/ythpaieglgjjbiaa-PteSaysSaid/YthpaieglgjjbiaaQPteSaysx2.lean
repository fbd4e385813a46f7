-- Laid by a program of this session (wip/tpl/mine.sh), out of the program's form in Lean: Lean checks it.
import Derived.Test.YthpaieglgjjbiaaQPteSaysx0
import Derived.Test.YthpaieglgjjbiaaQPteSaysx1
namespace Go.Proofs.Ythpaieglgjjbiaa.QPteSays
open Go.RowKit Go.Proofs.YthpaieglgjjbiaaW.PrintWords Go.Proofs.YthpaieglgjjbiaaW.PrintLast Go.Proofs.YthpaieglgjjbiaaW.PrintMore
attribute [local go_sem] max2_int min2_int max_two min_two max_three min_three max_four min_four   -- for this text's walks alone
set_option linter.unusedVariables false
set_option linter.unusedSimpArgs false

/-! ### pte_Make: function 17 -/
def pte_Make.l0 : Nat → Int → Int → List Int → Int → Int → Option (Int)
  | 0, _, _, _, _, _ => none
  | k + 1, x0, x5, x8, x9, x10 => if x10 < x9 then (if 0 ≤ x10 then (if x10 < (x8.length : Int) then (pte_Make.l0 k x0 (Go.bits .or .u32 x5 (rd x8 x10)) x8 x9 (wrap64 (x10 + 1))) else (none)) else (none)) else ((word_Pack.f k (([(⟨10, 22, x0⟩ : S37), (⟨0, 10, x5⟩ : S37)] : List (S37)))).bind fun t116 => (some t116))
def pte_Make.f (k : Nat) (a0 : Int) (l1 : List Int) : Option (Int) := pte_Make.l0 k a0 0 l1 (l1.length : Int) 0
theorem pte_Make.mono_l : ∀ k, (∀ y0 y1 y2 y3 y4, LeO (pte_Make.l0 k y0 y1 y2 y3 y4) (pte_Make.l0 (k + 1) y0 y1 y2 y3 y4))
  | 0 => fun _ _ _ _ _ r h => by simp [pte_Make.l0] at h
  | k + 1 => by
    have ih0 := pte_Make.mono_l k
    · intro y0 y1 y2 y3 y4
      unfold pte_Make.l0
      repeat' first
      | (with_reducible exact ih0 _ _ _ _ _)
      | (with_reducible exact word_Pack.mono _ _)
      | (with_reducible exact LeO.refl _)
      | (with_reducible exact LeO.none _)
      | (with_reducible refine LeO.ite ?_ ?_)
      | (with_reducible refine LeO.bind ?_ (fun _ => ?_))
      | exact ih0 _ _ _ _ _
      | exact word_Pack.mono _ _
      | exact LeO.none _
      | refine LeO.ite ?_ ?_
      | refine LeO.bind ?_ (fun _ => ?_)
theorem pte_Make.mono : ∀ a0 a1 k, LeO (pte_Make.f k a0 a1) (pte_Make.f (k + 1) a0 a1) := by
  intro a0 a1 k
  have ih0 := pte_Make.mono_l k
  unfold pte_Make.f
  repeat' first
      | (with_reducible exact ih0 _ _ _ _ _)
      | (with_reducible exact word_Pack.mono _ _)
      | (with_reducible exact LeO.refl _)
      | (with_reducible exact LeO.none _)
      | (with_reducible refine LeO.ite ?_ ?_)
      | (with_reducible refine LeO.bind ?_ (fun _ => ?_))
      | exact ih0 _ _ _ _ _
      | exact word_Pack.mono _ _
      | exact LeO.none _
      | refine LeO.ite ?_ ?_
      | refine LeO.bind ?_ (fun _ => ?_)
set_option maxHeartbeats 8000000 in
set_option maxRecDepth 100000 in
theorem pte_Make.calls (k : Nat) (a0 : Int) (A1 : Option Addr) (c1 : Nat) (l1 : List Int) (r : Int) (w : World) (hr1 : Kd.C (Kd.int .u32) w A1 l1.length l1) (hc1 : l1.length ≤ c1) (h : pte_Make.f k a0 l1 = some r) :
    Calls Try.prog 17 #[.int .u32 a0, .slice A1 l1.length c1] w fun e w' => e = .returned (.int .u32 r) ∧ Below w.heap.size w w' := by
  have hu37 := Try.underlying37
  have HR1 := Aside0.mk hr1
  have HC1 := Aside0.mk hc1
  clear hr1 hc1
  have HB := Aside0.mk (Below.refl w.heap.size w)
  have H : (pte_Make.l0 k a0 0 l1 (l1.length : Int) 0) = some r := h
  clear h
  have H' := Aside0.mk H
  clear H
  go_enter Try.func17, Try.ntmps17
  go_wp2
  go_loopg [5, 10] k (fun kq v5 v10 w' => ∃ (x5_1 : Int) (x10_1 : Int), v5 = .int .u32 x5_1 ∧ v10 = .int .i64 x10_1 ∧ Aside0 (pte_Make.l0 kq a0 x5_1 l1 (l1.length : Int) x10_1 = some r) ∧ Aside0 (kq ≤ k) ∧ Aside0 (Below w.heap.size w w'))
  case atStart => exact ⟨(0), (0), (by first | rfl | (simp; done) | (simp [*]; done)), (by first | rfl | (simp; done) | (simp [*]; done)), H', ⟨Nat.le_refl _⟩, ⟨by repeat (first | (with_reducible first | exact HB.out | apply below_alloc | apply pw_below_drewN | apply below_drew1) | exact HB.out)⟩⟩
  case round =>
    clear H'
    try clear c1
    try clear p2
    obtain ⟨x5_1, x10_1, rfl, rfl, HA, HK1, HB⟩ := hrel
    cases gk with
    | zero => exact absurd HA.out (by simp [pte_Make.l0])
    | succ k1 =>
      have H := HA.out
      clear HA
      simp only [pte_Make.l0] at H
      by_cases c3 : x10_1 < (l1.length : Int)
      · rw [if_pos c3] at H
        have c3b0 : decide (x10_1 < (l1.length : Int)) = true := decide_eq_true c3
        clear c3
        by_cases c4 : 0 ≤ x10_1
        · rw [if_pos c4] at H
          have c4b0 : decide (0 ≤ x10_1) = true := decide_eq_true c4
          clear c4
          by_cases c5 : x10_1 < (l1.length : Int)
          · rw [if_pos c5] at H
            have c5b0 : decide (x10_1 < (l1.length : Int)) = true := decide_eq_true c5
            clear c5
            have H' := Aside0.mk H
            clear H
            have p112 : 0 ≤ (x10_1 : Int) := of_decide_eq_true (by first | (with_reducible assumption) | assumption)
            have q112 : x10_1 < (l1.length : Int) := of_decide_eq_true (by first | (with_reducible assumption) | assumption)
            obtain ⟨ad112, e112, hx112_0⟩ := Kd.at_int HR1.out x10_1 p112 q112
            cases e112
            replace hx112_0 := (HB.out.cell (World.block_lt_of_cell? w _ hx112_0)).trans hx112_0
            replace p112 := eq_true p112
            replace q112 := eq_true q112
            go_wp2
            go_roundg k1
            case measure => have := HK1.out; omega
            case rel => exact ⟨(Go.bits .or .u32 x5_1 (rd l1 x10_1)), (wrap64 (x10_1 + 1)), (by first | rfl | (simp; done) | (simp [*]; done)), (by first | rfl | (simp; done) | (simp [*]; done)), H', ⟨by have := HK1.out; omega⟩, ⟨by repeat (first | (with_reducible first | exact HB.out | apply below_alloc | apply pw_below_drewN | apply below_drew1) | exact HB.out)⟩⟩
          · rw [if_neg c5] at H
            exact absurd H (by simp)
        · rw [if_neg c4] at H
          exact absurd H (by simp)
      · rw [if_neg c3] at H
        have c3b0 : decide (x10_1 < (l1.length : Int)) = false := decide_eq_false c3
        clear c3
        obtain ⟨y113, hy113⟩ : ∃ y_ : List (S37), y_ = (([(⟨10, 22, a0⟩ : S37), (⟨0, 10, x5_1⟩ : S37)] : List (S37))) := ⟨_, rfl⟩
        replace H : ((word_Pack.f k1 y113).bind fun t116 => (some t116)) = some r := by first | (rw [hy113]; with_reducible exact H) | (have H2_ := (Option.bind_some _ _).symm.trans H; rw [hy113]; with_reducible exact H2_) | (have H2_ := (Option.bind_some _ _).symm.trans H; with_reducible exact H2_) | with_reducible exact H | (rw [hy113]; exact H) | exact H
        have Ny113 := Aside0.mk hy113
        clear hy113
        replace H := Option.bind_eq_some_iff.mp H
        obtain ⟨t116, A60, H⟩ := H
        replace H : (some t116) = some r := H
        have A6 := Aside0.mk A60
        clear A60
        obtain rfl := Option.some.inj H
        go_wp2_with (first | ((with_reducible refine gate_dst (N := 22) rfl ?_); refine Kd.R_lit k37 _ 37 ?hg (N := 22) ?hd (xs := ([(⟨10, 22, a0⟩ : S37), (⟨0, 10, x5_1⟩ : S37)] : List (S37))) (inner := [.int .i64 10, .int .i64 22, .int .u32 a0, .int .i64 0, .int .i64 10, .int .u32 x5_1]) (ok := fun _ => True) (okp := fun _ => True) ?hr ?hp (fun _ hk => hk) trivial (Below.refl _ _) (Nat.le_refl _) (by simp) ?_; (case hd => rfl); (case hg => rfl); (case hr => first | (go_simp; done) | (go_simp; rfl)); (case hp => exact (Reps.c3 (show Kd.M k37 _ _ _ (⟨10, 22, a0⟩ : S37) [.int .i64 10, .int .i64 22, .int .u32 a0] from (k37_mkM _ _ _ (⟨10, 22, a0⟩ : S37) )) (Reps.c3 (show Kd.M k37 _ _ _ (⟨0, 10, x5_1⟩ : S37) [.int .i64 0, .int .i64 10, .int .u32 x5_1] from (k37_mkM _ _ _ (⟨0, 10, x5_1⟩ : S37) )) (Reps.none _ _)))); intro v114 w7 ho8 hb hg_ hnew_; clear hg_ hnew_; (first | rw [← Ny113.out] at ho8 | (simp only [Int.reduceToNat] at ho8; rw [← Ny113.out] at ho8)); have n0_ := Aside0.mk (Kd.R_lower ho8 (below_size (by repeat (first | (with_reducible first | exact HB.out | apply below_alloc | apply pw_below_drewN | apply below_drew1) | exact HB.out)))); have n1_ := Aside0.mk (below_step (by repeat (first | (with_reducible first | exact HB.out | apply below_alloc | apply pw_below_drewN | apply below_drew1) | exact HB.out)) hb); clear HB; have HO115 := n0_; have HB := n1_; clear n0_ n1_; clear hb ho8; obtain ⟨Ao9, co9, eo9⟩ := Kd.R_slice HO115.out; subst eo9) | ((with_reducible refine gate_callee (f := 21) rfl ?_); refine goesL_ (some 23) rfl rfl Try.func21 (by kernel_rfl) rfl #[.slice Ao9 y113.length co9] rfl (by (try simp only [List.map_toArray, List.map_cons, List.map_nil]); first | done | rfl | (simp only [List.length_drop, List.length_take]; rfl)) ?_; (with_reducible refine (word_Pack.calls k1 _ _ y113 t116 _ ?side1 ?side2 A6.out).mono ?_); (case side1 => repeat (first | exact (Kd.R_reads' HO115.out).2.2 | (with_reducible refine Kd.C_alloc ?_ _) | (with_reducible refine Kd.C_drewN ?_ _) | (with_reducible refine Kd.C_drew ?_))); (case side2 => exact (Kd.R_reads' HO115.out).2.1); rintro e w10 ⟨rfl, hb⟩; refine ⟨_, rfl, ?_⟩; have n0_ := Aside0.mk (Kd.R_below (by (with_reducible repeat (first | apply Kd.R_alloc | apply Kd.R_drewN | apply Kd.R_drew)); exact HO115.out) hb); have n1_ := Aside0.mk (below_step (by repeat (first | (with_reducible first | exact HB.out | apply below_alloc | apply pw_below_drewN | apply below_drew1) | exact HB.out)) hb); clear HO115; clear HB; have HO115 := n0_; have HB := n1_; clear n0_ n1_; (try clear hb); (try clear hb2); (try clear hk); (try clear hi)))
        go_ret
        exact ⟨by first | rfl | (simp [errW_none, errW_some] <;> rfl) | (simp [*, errW_none, errW_some] <;> rfl), by repeat (first | (with_reducible first | exact HB.out | apply below_alloc | apply pw_below_drewN | apply below_drew1) | exact HB.out)⟩

/-! ### corrallaw8_first: function 13 -/
def corrallaw8_first.f (k : Nat)  : Option (Bool) := (pte_Make.f k 5 (([1, 2, 64] : List Int))).bind fun t120 => (if t120 = 5187 then ((pte_Bad.f 5).bind fun t121 => (if t121 = true then ((pte_Make.f k 5 (([1, 2, 16, 64] : List Int))).bind fun t125 => ((pte_May.f t125 2 0).bind fun t126 => (some t126))) else (some false))) else (some false))
theorem corrallaw8_first.mono : ∀ k, LeO (corrallaw8_first.f k ) (corrallaw8_first.f (k + 1) ) := by
  intro  k
  unfold corrallaw8_first.f
  repeat' first
      | (with_reducible exact pte_Make.mono _ _ _)
      | (with_reducible exact LeO.refl _)
      | (with_reducible exact LeO.none _)
      | (with_reducible refine LeO.ite ?_ ?_)
      | (with_reducible refine LeO.bind ?_ (fun _ => ?_))
      | exact pte_Make.mono _ _ _
      | exact LeO.none _
      | refine LeO.ite ?_ ?_
      | refine LeO.bind ?_ (fun _ => ?_)
set_option maxHeartbeats 8000000 in
set_option maxRecDepth 100000 in
theorem corrallaw8_first.calls (k : Nat)  (r : Bool) (w : World) (h : corrallaw8_first.f k  = some r) :
    Calls Try.prog 13 #[] w fun e w' => e = .returned (.bool r) ∧ Below w.heap.size w w' := by
  have HB := Aside0.mk (Below.refl w.heap.size w)
  have H : ((pte_Make.f k 5 (([1, 2, 64] : List Int))).bind fun t120 => (if t120 = 5187 then ((pte_Bad.f 5).bind fun t121 => (if t121 = true then ((pte_Make.f k 5 (([1, 2, 16, 64] : List Int))).bind fun t125 => ((pte_May.f t125 2 0).bind fun t126 => (some t126))) else (some false))) else (some false))) = some r := h
  clear h
  obtain ⟨y117, hy117⟩ : ∃ y_ : List Int, y_ = (([1, 2, 64] : List Int)) := ⟨_, rfl⟩
  replace H : ((pte_Make.f k 5 y117).bind fun t120 => (if t120 = 5187 then ((pte_Bad.f 5).bind fun t121 => (if t121 = true then ((pte_Make.f k 5 (([1, 2, 16, 64] : List Int))).bind fun t125 => ((pte_May.f t125 2 0).bind fun t126 => (some t126))) else (some false))) else (some false))) = some r := by first | (rw [hy117]; with_reducible exact H) | (have H2_ := (Option.bind_some _ _).symm.trans H; rw [hy117]; with_reducible exact H2_) | (have H2_ := (Option.bind_some _ _).symm.trans H; with_reducible exact H2_) | with_reducible exact H | (rw [hy117]; exact H) | exact H
  have Ny117 := Aside0.mk hy117
  clear hy117
  replace H := Option.bind_eq_some_iff.mp H
  obtain ⟨t120, A10, H⟩ := H
  replace H : (if t120 = 5187 then ((pte_Bad.f 5).bind fun t121 => (if t121 = true then ((pte_Make.f k 5 (([1, 2, 16, 64] : List Int))).bind fun t125 => ((pte_May.f t125 2 0).bind fun t126 => (some t126))) else (some false))) else (some false)) = some r := H
  have A1 := Aside0.mk A10
  clear A10
  by_cases c2 : t120 = 5187
  · rw [if_pos c2] at H
    have c2b0 : (t120 == 5187) = true := beq_iff_eq.mpr c2
    have c2b1 : (t120 != 5187) = false := bne_eq_false_iff_eq.mpr c2
    clear c2
    replace H := Option.bind_eq_some_iff.mp H
    obtain ⟨t121, A30, H⟩ := H
    replace H : (if t121 = true then ((pte_Make.f k 5 (([1, 2, 16, 64] : List Int))).bind fun t125 => ((pte_May.f t125 2 0).bind fun t126 => (some t126))) else (some false)) = some r := H
    have A3 := Aside0.mk A30
    clear A30
    by_cases c4 : t121 = true
    · subst c4
      have H1 : ((pte_Make.f k 5 (([1, 2, 16, 64] : List Int))).bind fun t125 => ((pte_May.f t125 2 0).bind fun t126 => (some t126))) = some r := by rw [if_pos rfl] at H; exact H
      clear H
      have H := H1
      clear H1
      obtain ⟨y122, hy122⟩ : ∃ y_ : List Int, y_ = (([1, 2, 16, 64] : List Int)) := ⟨_, rfl⟩
      replace H : ((pte_Make.f k 5 y122).bind fun t125 => ((pte_May.f t125 2 0).bind fun t126 => (some t126))) = some r := by first | (rw [hy122]; with_reducible exact H) | (have H2_ := (Option.bind_some _ _).symm.trans H; rw [hy122]; with_reducible exact H2_) | (have H2_ := (Option.bind_some _ _).symm.trans H; with_reducible exact H2_) | with_reducible exact H | (rw [hy122]; exact H) | exact H
      have Ny122 := Aside0.mk hy122
      clear hy122
      replace H := Option.bind_eq_some_iff.mp H
      obtain ⟨t125, A50, H⟩ := H
      replace H : ((pte_May.f t125 2 0).bind fun t126 => (some t126)) = some r := H
      have A5 := Aside0.mk A50
      clear A50
      replace H := Option.bind_eq_some_iff.mp H
      obtain ⟨t126, A60, H⟩ := H
      replace H : (some t126) = some r := H
      have A6 := Aside0.mk A60
      clear A60
      obtain rfl := Option.some.inj H
      go_enter Try.func13, Try.ntmps13
      go_wp2_with (first | ((with_reducible refine gate_dst (N := 1) rfl ?_); (try (refine gate_guard (by rfl) ?_; dsimp only)); refine Kd.R_lit (Kd.int .u32) _ 22 ?hg (N := 1) ?hd (xs := ([1, 2, 64] : List Int)) (inner := [.int .u32 1, .int .u32 2, .int .u32 64]) (ok := fun _ => True) (okp := fun _ => True) ?hr ?hp (fun _ hk => hk) trivial (Below.refl _ _) (Nat.le_refl _) (by simp) ?_; (case hd => rfl); (case hg => rfl); (case hr => first | (go_simp; done) | (go_simp; rfl)); (case hp => exact (Reps.one (show Kd.M (Kd.int .u32) _ _ _ 1 [.int .u32 1] from rfl) (Reps.one (show Kd.M (Kd.int .u32) _ _ _ 2 [.int .u32 2] from rfl) (Reps.one (show Kd.M (Kd.int .u32) _ _ _ 64 [.int .u32 64] from rfl) (Reps.none _ _))))); intro v118 w7 ho8 hb hg_ hnew_; clear hg_ hnew_; (first | rw [← Ny117.out] at ho8 | (simp only [Int.reduceToNat] at ho8; rw [← Ny117.out] at ho8)); have n0_ := Aside0.mk (Kd.R_lower ho8 (below_size (by repeat (first | (with_reducible first | exact HB.out | apply below_alloc | apply pw_below_drewN | apply below_drew1) | exact HB.out)))); have n1_ := Aside0.mk (below_step (by repeat (first | (with_reducible first | exact HB.out | apply below_alloc | apply pw_below_drewN | apply below_drew1) | exact HB.out)) hb); clear HB; have HO119 := n0_; have HB := n1_; clear n0_ n1_; clear hb ho8; obtain ⟨Ao9, co9, eo9⟩ := Kd.R_slice HO119.out; subst eo9) | ((with_reducible refine gate_callee (f := 17) rfl ?_); refine goesL_ (some 2) rfl rfl Try.func17 (by kernel_rfl) rfl #[.int .u32 5, .slice Ao9 y117.length co9] rfl (by (try simp only [List.map_toArray, List.map_cons, List.map_nil]); first | done | rfl | (simp only [List.length_drop, List.length_take]; rfl)) ?_; (with_reducible refine (pte_Make.calls k 5 _ _ y117 t120 _ ?side1 ?side2 A1.out).mono ?_); (case side1 => repeat (first | exact (Kd.R_reads' HO119.out).2.2 | (with_reducible refine Kd.C_alloc ?_ _) | (with_reducible refine Kd.C_drewN ?_ _) | (with_reducible refine Kd.C_drew ?_))); (case side2 => exact (Kd.R_reads' HO119.out).2.1); rintro e w10 ⟨rfl, hb⟩; refine ⟨_, rfl, ?_⟩; have n0_ := Aside0.mk (Kd.R_below (by (with_reducible repeat (first | apply Kd.R_alloc | apply Kd.R_drewN | apply Kd.R_drew)); exact HO119.out) hb); have n1_ := Aside0.mk (below_step (by repeat (first | (with_reducible first | exact HB.out | apply below_alloc | apply pw_below_drewN | apply below_drew1) | exact HB.out)) hb); clear HO119; clear HB; have HO119 := n0_; have HB := n1_; clear n0_ n1_; (try clear hb); (try clear hb2); (try clear hk); (try clear hi)) | (go_at_call 15; (with_reducible refine (pte_Bad.calls 5 true _ A3.out).mono ?_); rintro e w' ⟨rfl, ⟨nd, rfl⟩⟩) | ((with_reducible refine gate_dst (N := 8) rfl ?_); (try (refine gate_guard (by rfl) ?_; dsimp only)); refine Kd.R_lit (Kd.int .u32) _ 22 ?hg (N := 8) ?hd (xs := ([1, 2, 16, 64] : List Int)) (inner := [.int .u32 1, .int .u32 2, .int .u32 16, .int .u32 64]) (ok := fun _ => True) (okp := fun _ => True) ?hr ?hp (fun _ hk => hk) trivial (Below.refl _ _) (Nat.le_refl _) (by simp) ?_; (case hd => rfl); (case hg => rfl); (case hr => first | (go_simp; done) | (go_simp; rfl)); (case hp => exact (Reps.one (show Kd.M (Kd.int .u32) _ _ _ 1 [.int .u32 1] from rfl) (Reps.one (show Kd.M (Kd.int .u32) _ _ _ 2 [.int .u32 2] from rfl) (Reps.one (show Kd.M (Kd.int .u32) _ _ _ 16 [.int .u32 16] from rfl) (Reps.one (show Kd.M (Kd.int .u32) _ _ _ 64 [.int .u32 64] from rfl) (Reps.none _ _)))))); intro v123 w11 ho12 hb hg_ hnew_; clear hg_ hnew_; (first | rw [← Ny122.out] at ho12 | (simp only [Int.reduceToNat] at ho12; rw [← Ny122.out] at ho12)); have n0_ := Aside0.mk (Kd.R_elder' (by (with_reducible repeat (first | apply Kd.R_alloc | apply Kd.R_drewN | apply Kd.R_drew)); exact HO119.out) (Kd.R_base ho12) hb); have n1_ := Aside0.mk (Kd.R_lower (Kd.R_new' ho12 (Kd.R_lt (by (with_reducible repeat (first | apply Kd.R_alloc | apply Kd.R_drewN | apply Kd.R_drew)); exact HO119.out))) (below_size (by repeat (first | (with_reducible first | exact HB.out | apply below_alloc | apply pw_below_drewN | apply below_drew1) | exact HB.out)))); have n2_ := Aside0.mk (below_step (by repeat (first | (with_reducible first | exact HB.out | apply below_alloc | apply pw_below_drewN | apply below_drew1) | exact HB.out)) hb); clear HO119; clear HB; have HO119 := n0_; have HO124 := n1_; have HB := n2_; clear n0_ n1_ n2_; clear hb ho12; obtain ⟨Ao13, co13, eo13⟩ := Kd.R_slice HO124.out; subst eo13) | (go_at_call 17; (with_reducible refine (pte_Make.calls k 5 _ _ y122 t125 _ ?side1 ?side2 A5.out).mono ?_); (case side1 => repeat (first | exact (Kd.R_reads' HO124.out).2.2 | (with_reducible refine Kd.C_alloc ?_ _) | (with_reducible refine Kd.C_drewN ?_ _) | (with_reducible refine Kd.C_drew ?_))); (case side2 => exact (Kd.R_reads' HO124.out).2.1); rintro e w14 ⟨rfl, hb⟩; have n0_ := Aside0.mk (Kd.R_below (by (with_reducible repeat (first | apply Kd.R_alloc | apply Kd.R_drewN | apply Kd.R_drew)); exact HO119.out) hb); have n1_ := Aside0.mk (Kd.R_below (by (with_reducible repeat (first | apply Kd.R_alloc | apply Kd.R_drewN | apply Kd.R_drew)); exact HO124.out) hb); have n2_ := Aside0.mk (below_step (by repeat (first | (with_reducible first | exact HB.out | apply below_alloc | apply pw_below_drewN | apply below_drew1) | exact HB.out)) hb); clear HO119; clear HO124; clear HB; have HO119 := n0_; have HO124 := n1_; have HB := n2_; clear n0_ n1_ n2_; (try clear hb); (try clear hb2); (try clear hk); (try clear hi)) | (go_at_call 14; (with_reducible refine (pte_May.calls t125 2 0 t126 _ A6.out).mono ?_); rintro e w' ⟨rfl, ⟨nd, rfl⟩⟩))
      go_ret
      exact ⟨by first | rfl | (simp [errW_none, errW_some] <;> rfl) | (simp [*, errW_none, errW_some] <;> rfl), by repeat (first | (with_reducible first | exact HB.out | apply below_alloc | apply pw_below_drewN | apply below_drew1) | exact HB.out)⟩
    · replace c4 := Bool.eq_false_iff.mpr c4
      subst c4
      have H1 : (some false) = some r := by rw [if_neg (show ¬ (false = true) by decide)] at H; exact H
      clear H
      have H := H1
      clear H1
      obtain rfl := Option.some.inj H
      go_enter Try.func13, Try.ntmps13
      go_wp2_with (first | ((with_reducible refine gate_dst (N := 1) rfl ?_); (try (refine gate_guard (by rfl) ?_; dsimp only)); refine Kd.R_lit (Kd.int .u32) _ 22 ?hg (N := 1) ?hd (xs := ([1, 2, 64] : List Int)) (inner := [.int .u32 1, .int .u32 2, .int .u32 64]) (ok := fun _ => True) (okp := fun _ => True) ?hr ?hp (fun _ hk => hk) trivial (Below.refl _ _) (Nat.le_refl _) (by simp) ?_; (case hd => rfl); (case hg => rfl); (case hr => first | (go_simp; done) | (go_simp; rfl)); (case hp => exact (Reps.one (show Kd.M (Kd.int .u32) _ _ _ 1 [.int .u32 1] from rfl) (Reps.one (show Kd.M (Kd.int .u32) _ _ _ 2 [.int .u32 2] from rfl) (Reps.one (show Kd.M (Kd.int .u32) _ _ _ 64 [.int .u32 64] from rfl) (Reps.none _ _))))); intro v118 w15 ho16 hb hg_ hnew_; clear hg_ hnew_; (first | rw [← Ny117.out] at ho16 | (simp only [Int.reduceToNat] at ho16; rw [← Ny117.out] at ho16)); have n0_ := Aside0.mk (Kd.R_lower ho16 (below_size (by repeat (first | (with_reducible first | exact HB.out | apply below_alloc | apply pw_below_drewN | apply below_drew1) | exact HB.out)))); have n1_ := Aside0.mk (below_step (by repeat (first | (with_reducible first | exact HB.out | apply below_alloc | apply pw_below_drewN | apply below_drew1) | exact HB.out)) hb); clear HB; have HO119 := n0_; have HB := n1_; clear n0_ n1_; clear hb ho16; obtain ⟨Ao17, co17, eo17⟩ := Kd.R_slice HO119.out; subst eo17) | ((with_reducible refine gate_callee (f := 17) rfl ?_); refine goesL_ (some 2) rfl rfl Try.func17 (by kernel_rfl) rfl #[.int .u32 5, .slice Ao17 y117.length co17] rfl (by (try simp only [List.map_toArray, List.map_cons, List.map_nil]); first | done | rfl | (simp only [List.length_drop, List.length_take]; rfl)) ?_; (with_reducible refine (pte_Make.calls k 5 _ _ y117 t120 _ ?side1 ?side2 A1.out).mono ?_); (case side1 => repeat (first | exact (Kd.R_reads' HO119.out).2.2 | (with_reducible refine Kd.C_alloc ?_ _) | (with_reducible refine Kd.C_drewN ?_ _) | (with_reducible refine Kd.C_drew ?_))); (case side2 => exact (Kd.R_reads' HO119.out).2.1); rintro e w18 ⟨rfl, hb⟩; refine ⟨_, rfl, ?_⟩; have n0_ := Aside0.mk (Kd.R_below (by (with_reducible repeat (first | apply Kd.R_alloc | apply Kd.R_drewN | apply Kd.R_drew)); exact HO119.out) hb); have n1_ := Aside0.mk (below_step (by repeat (first | (with_reducible first | exact HB.out | apply below_alloc | apply pw_below_drewN | apply below_drew1) | exact HB.out)) hb); clear HO119; clear HB; have HO119 := n0_; have HB := n1_; clear n0_ n1_; (try clear hb); (try clear hb2); (try clear hk); (try clear hi)) | (go_at_call 15; (with_reducible refine (pte_Bad.calls 5 false _ A3.out).mono ?_); rintro e w' ⟨rfl, ⟨nd, rfl⟩⟩))
      go_ret
      exact ⟨by first | rfl | (simp [errW_none, errW_some] <;> rfl) | (simp [*, errW_none, errW_some] <;> rfl), by repeat (first | (with_reducible first | exact HB.out | apply below_alloc | apply pw_below_drewN | apply below_drew1) | exact HB.out)⟩
  · rw [if_neg c2] at H
    have c2b0 : (t120 == 5187) = false := beq_eq_false_iff_ne.mpr c2
    have c2b1 : (t120 != 5187) = true := bne_iff_ne.mpr c2
    obtain rfl := Option.some.inj H
    go_enter Try.func13, Try.ntmps13
    go_wp2_with (first | ((with_reducible refine gate_dst (N := 1) rfl ?_); (try (refine gate_guard (by rfl) ?_; dsimp only)); refine Kd.R_lit (Kd.int .u32) _ 22 ?hg (N := 1) ?hd (xs := ([1, 2, 64] : List Int)) (inner := [.int .u32 1, .int .u32 2, .int .u32 64]) (ok := fun _ => True) (okp := fun _ => True) ?hr ?hp (fun _ hk => hk) trivial (Below.refl _ _) (Nat.le_refl _) (by simp) ?_; (case hd => rfl); (case hg => rfl); (case hr => first | (go_simp; done) | (go_simp; rfl)); (case hp => exact (Reps.one (show Kd.M (Kd.int .u32) _ _ _ 1 [.int .u32 1] from rfl) (Reps.one (show Kd.M (Kd.int .u32) _ _ _ 2 [.int .u32 2] from rfl) (Reps.one (show Kd.M (Kd.int .u32) _ _ _ 64 [.int .u32 64] from rfl) (Reps.none _ _))))); intro v118 w19 ho20 hb hg_ hnew_; clear hg_ hnew_; (first | rw [← Ny117.out] at ho20 | (simp only [Int.reduceToNat] at ho20; rw [← Ny117.out] at ho20)); have n0_ := Aside0.mk (Kd.R_lower ho20 (below_size (by repeat (first | (with_reducible first | exact HB.out | apply below_alloc | apply pw_below_drewN | apply below_drew1) | exact HB.out)))); have n1_ := Aside0.mk (below_step (by repeat (first | (with_reducible first | exact HB.out | apply below_alloc | apply pw_below_drewN | apply below_drew1) | exact HB.out)) hb); clear HB; have HO119 := n0_; have HB := n1_; clear n0_ n1_; clear hb ho20; obtain ⟨Ao21, co21, eo21⟩ := Kd.R_slice HO119.out; subst eo21) | ((with_reducible refine gate_callee (f := 17) rfl ?_); refine goesL_ (some 2) rfl rfl Try.func17 (by kernel_rfl) rfl #[.int .u32 5, .slice Ao21 y117.length co21] rfl (by (try simp only [List.map_toArray, List.map_cons, List.map_nil]); first | done | rfl | (simp only [List.length_drop, List.length_take]; rfl)) ?_; (with_reducible refine (pte_Make.calls k 5 _ _ y117 t120 _ ?side1 ?side2 A1.out).mono ?_); (case side1 => repeat (first | exact (Kd.R_reads' HO119.out).2.2 | (with_reducible refine Kd.C_alloc ?_ _) | (with_reducible refine Kd.C_drewN ?_ _) | (with_reducible refine Kd.C_drew ?_))); (case side2 => exact (Kd.R_reads' HO119.out).2.1); rintro e w22 ⟨rfl, hb⟩; refine ⟨_, rfl, ?_⟩; have n0_ := Aside0.mk (Kd.R_below (by (with_reducible repeat (first | apply Kd.R_alloc | apply Kd.R_drewN | apply Kd.R_drew)); exact HO119.out) hb); have n1_ := Aside0.mk (below_step (by repeat (first | (with_reducible first | exact HB.out | apply below_alloc | apply pw_below_drewN | apply below_drew1) | exact HB.out)) hb); clear HO119; clear HB; have HO119 := n0_; have HB := n1_; clear n0_ n1_; (try clear hb); (try clear hb2); (try clear hk); (try clear hi)))
    go_ret
    exact ⟨by first | rfl | (simp [errW_none, errW_some] <;> rfl) | (simp [*, errW_none, errW_some] <;> rfl), by repeat (first | (with_reducible first | exact HB.out | apply below_alloc | apply pw_below_drewN | apply below_drew1) | exact HB.out)⟩

/-! ### pte_Needs: function 18 -/
def pte_Needs.f (a0 : Int) (a1 : Int) : Option (Int) := if a1 = 3 then (some (Go.bits .or .u32 (Go.bits .or .u32 a0 128) 64)) else (some (Go.bits .or .u32 a0 64))
set_option maxHeartbeats 8000000 in
set_option maxRecDepth 100000 in
theorem pte_Needs.calls (a0 : Int) (a1 : Int) (r : Int) (w : World) (h : pte_Needs.f a0 a1 = some r) :
    Calls Try.prog 18 #[.int .u32 a0, .int .i64 a1] w fun e w' => e = .returned (.int .u32 r) ∧ Drawn0 w w' := by
  have H : (if a1 = 3 then (some (Go.bits .or .u32 (Go.bits .or .u32 a0 128) 64)) else (some (Go.bits .or .u32 a0 64))) = some r := h
  clear h
  by_cases c3 : a1 = 3
  · rw [if_pos c3] at H
    have c3b0 : (a1 == 3) = true := beq_iff_eq.mpr c3
    have c3b1 : (a1 != 3) = false := bne_eq_false_iff_eq.mpr c3
    clear c3
    obtain rfl := Option.some.inj H
    go_enter Try.func18, Try.ntmps18
    go_wp2
    go_ret
    exact ⟨by first | rfl | (simp; done) | (simp [*]; done), by repeat (first | exact Drawn0.refl _ | apply Drawn0.step)⟩
  · rw [if_neg c3] at H
    have c3b0 : (a1 == 3) = false := beq_eq_false_iff_ne.mpr c3
    have c3b1 : (a1 != 3) = true := bne_iff_ne.mpr c3
    obtain rfl := Option.some.inj H
    go_enter Try.func18, Try.ntmps18
    go_wp2
    go_ret
    exact ⟨by first | rfl | (simp; done) | (simp [*]; done), by repeat (first | exact Drawn0.refl _ | apply Drawn0.step)⟩

/-! ### pte_Page: function 19 -/
def pte_Page.f (a0 : Int) : Option (Int) := some (a0 / 1024)
set_option maxHeartbeats 8000000 in
set_option maxRecDepth 100000 in
theorem pte_Page.calls (a0 : Int) (r : Int) (w : World) (h : pte_Page.f a0 = some r) :
    Calls Try.prog 19 #[.int .u32 a0] w fun e w' => e = .returned (.int .u32 r) ∧ Drawn0 w w' := by
  have H : (some (a0 / 1024)) = some r := h
  clear h
  obtain rfl := Option.some.inj H
  go_enter Try.func19, Try.ntmps19
  go_wp2
  go_ret
  exact ⟨by first | rfl | (simp; done) | (simp [*]; done), by repeat (first | exact Drawn0.refl _ | apply Drawn0.step)⟩

/-! ### corralref6_Leaf: function 32 -/
def corralref6_Leaf.f (a0 : Int) : Option (Bool) := some ((Go.bits .and .u32 a0 10) != 0)
set_option maxHeartbeats 8000000 in
set_option maxRecDepth 100000 in
theorem corralref6_Leaf.calls (a0 : Int) (r : Bool) (w : World) (h : corralref6_Leaf.f a0 = some r) :
    Calls Try.prog 32 #[.int .u32 a0] w fun e w' => e = .returned (.bool r) ∧ Drawn0 w w' := by
  have H : (some ((Go.bits .and .u32 a0 10) != 0)) = some r := h
  clear h
  obtain rfl := Option.some.inj H
  go_enter Try.func32, Try.ntmps32
  go_wp2
  go_ret
  exact ⟨by first | rfl | (simp; done) | (simp [*]; done), by repeat (first | exact Drawn0.refl _ | apply Drawn0.step)⟩

/-! ### corralref6_Bad: function 31 -/
def corralref6_Bad.f (a0 : Int) : Option (Bool) := if (Go.bits .and .u32 a0 1) = 0 then (some true) else (if (Go.bits .and .u32 a0 6) = 4 then (some true) else ((corralref6_Leaf.f a0).bind fun t127 => (if t127 = true then (some false) else (some ((Go.bits .and .u32 a0 208) != 0)))))
set_option maxHeartbeats 8000000 in
set_option maxRecDepth 100000 in
theorem corralref6_Bad.calls (a0 : Int) (r : Bool) (w : World) (h : corralref6_Bad.f a0 = some r) :
    Calls Try.prog 31 #[.int .u32 a0] w fun e w' => e = .returned (.bool r) ∧ Drawn0 w w' := by
  have H : (if (Go.bits .and .u32 a0 1) = 0 then (some true) else (if (Go.bits .and .u32 a0 6) = 4 then (some true) else ((corralref6_Leaf.f a0).bind fun t127 => (if t127 = true then (some false) else (some ((Go.bits .and .u32 a0 208) != 0)))))) = some r := h
  clear h
  by_cases c2 : (Go.bits .and .u32 a0 1) = 0
  · rw [if_pos c2] at H
    have c2b0 : ((Go.bits .and .u32 a0 1) == 0) = true := beq_iff_eq.mpr c2
    have c2b1 : ((Go.bits .and .u32 a0 1) != 0) = false := bne_eq_false_iff_eq.mpr c2
    clear c2
    obtain rfl := Option.some.inj H
    go_enter Try.func31, Try.ntmps31
    go_wp2
    go_ret
    exact ⟨by first | rfl | (simp; done) | (simp [*]; done), by repeat (first | exact Drawn0.refl _ | apply Drawn0.step)⟩
  · rw [if_neg c2] at H
    have c2b0 : ((Go.bits .and .u32 a0 1) == 0) = false := beq_eq_false_iff_ne.mpr c2
    have c2b1 : ((Go.bits .and .u32 a0 1) != 0) = true := bne_iff_ne.mpr c2
    by_cases c3 : (Go.bits .and .u32 a0 6) = 4
    · rw [if_pos c3] at H
      have c3b0 : ((Go.bits .and .u32 a0 6) == 4) = true := beq_iff_eq.mpr c3
      have c3b1 : ((Go.bits .and .u32 a0 6) != 4) = false := bne_eq_false_iff_eq.mpr c3
      clear c3
      obtain rfl := Option.some.inj H
      go_enter Try.func31, Try.ntmps31
      go_wp2
      go_ret
      exact ⟨by first | rfl | (simp; done) | (simp [*]; done), by repeat (first | exact Drawn0.refl _ | apply Drawn0.step)⟩
    · rw [if_neg c3] at H
      have c3b0 : ((Go.bits .and .u32 a0 6) == 4) = false := beq_eq_false_iff_ne.mpr c3
      have c3b1 : ((Go.bits .and .u32 a0 6) != 4) = true := bne_iff_ne.mpr c3
      replace H := Option.bind_eq_some_iff.mp H
      obtain ⟨t127, A40, H⟩ := H
      replace H : (if t127 = true then (some false) else (some ((Go.bits .and .u32 a0 208) != 0))) = some r := H
      have A4 := Aside0.mk A40
      clear A40
      by_cases c5 : t127 = true
      · subst c5
        have H1 : (some false) = some r := by rw [if_pos rfl] at H; exact H
        clear H
        have H := H1
        clear H1
        obtain rfl := Option.some.inj H
        go_enter Try.func31, Try.ntmps31
        go_wp2_with (first | (go_at_call 32; (with_reducible refine (corralref6_Leaf.calls a0 true _ A4.out).mono ?_); rintro e w' ⟨rfl, ⟨nd, rfl⟩⟩))
        go_ret
        exact ⟨by first | rfl | (simp; done) | (simp [*]; done), by repeat (first | exact Drawn0.refl _ | apply Drawn0.step)⟩
      · replace c5 := Bool.eq_false_iff.mpr c5
        subst c5
        have H1 : (some ((Go.bits .and .u32 a0 208) != 0)) = some r := by rw [if_neg (show ¬ (false = true) by decide)] at H; exact H
        clear H
        have H := H1
        clear H1
        obtain rfl := Option.some.inj H
        go_enter Try.func31, Try.ntmps31
        go_wp2_with (first | (go_at_call 32; (with_reducible refine (corralref6_Leaf.calls a0 false _ A4.out).mono ?_); rintro e w' ⟨rfl, ⟨nd, rfl⟩⟩))
        go_ret
        exact ⟨by first | rfl | (simp; done) | (simp [*]; done), by repeat (first | exact Drawn0.refl _ | apply Drawn0.step)⟩

/-! ### corralref6_May: function 33 -/
def corralref6_May.j0 : Nat → Int → Int → Int → Bool → Option (Bool)
  | 0, _, _, _, _ => none
  | k + 1, x0, x1, x2, x14 => if x14 = true then (some false) else (if x1 = 1 then (if x2 = 0 then (if (Go.bits .and .u32 x0 8) = 0 then (some false) else (some (((Go.bits .and .u32 x0 16) != 0) == (x2 == 0)))) else (if x2 = 3 then (if (Go.bits .and .u32 x0 8) = 0 then (some false) else (some (((Go.bits .and .u32 x0 16) != 0) == (x2 == 0)))) else (some false))) else (if x1 = 2 then (if x2 = 0 then (if (Go.bits .and .u32 x0 2) = 0 then (some false) else (some (((Go.bits .and .u32 x0 16) != 0) == (x2 == 0)))) else (if x2 = 3 then (if (Go.bits .and .u32 x0 2) = 0 then (some false) else (some (((Go.bits .and .u32 x0 16) != 0) == (x2 == 0)))) else (some false))) else (if x1 = 3 then (if x2 = 0 then (if (Go.bits .and .u32 x0 4) = 0 then (some false) else (some (((Go.bits .and .u32 x0 16) != 0) == (x2 == 0)))) else (if x2 = 3 then (if (Go.bits .and .u32 x0 4) = 0 then (some false) else (some (((Go.bits .and .u32 x0 16) != 0) == (x2 == 0)))) else (some false))) else (if x2 = 0 then (if (Go.bits .and .u32 x0 0) = 0 then (some false) else (some (((Go.bits .and .u32 x0 16) != 0) == (x2 == 0)))) else (if x2 = 3 then (if (Go.bits .and .u32 x0 0) = 0 then (some false) else (some (((Go.bits .and .u32 x0 16) != 0) == (x2 == 0)))) else (some false))))))
def corralref6_May.f (k : Nat) (a0 : Int) (a1 : Int) (a2 : Int) : Option (Bool) := (corralref6_Bad.f a0).bind fun t128 => (if t128 = true then (corralref6_May.j0 k a0 a1 a2 true) else ((corralref6_Leaf.f a0).bind fun t129 => (corralref6_May.j0 k a0 a1 a2 (!t129))))
theorem corralref6_May.mono_l : ∀ k, (∀ y0 y1 y2 y3, LeO (corralref6_May.j0 k y0 y1 y2 y3) (corralref6_May.j0 (k + 1) y0 y1 y2 y3))
  | 0 => fun _ _ _ _ r h => by simp [corralref6_May.j0] at h
  | k + 1 => by
    have ih0 := corralref6_May.mono_l k
    · intro y0 y1 y2 y3
      unfold corralref6_May.j0
      repeat' first
      | (with_reducible exact ih0 _ _ _ _)
      | (with_reducible exact LeO.refl _)
      | (with_reducible exact LeO.none _)
      | (with_reducible refine LeO.ite ?_ ?_)
      | (with_reducible refine LeO.bind ?_ (fun _ => ?_))
      | exact ih0 _ _ _ _
      | exact LeO.none _
      | refine LeO.ite ?_ ?_
      | refine LeO.bind ?_ (fun _ => ?_)
theorem corralref6_May.mono : ∀ a0 a1 a2 k, LeO (corralref6_May.f k a0 a1 a2) (corralref6_May.f (k + 1) a0 a1 a2) := by
  intro a0 a1 a2 k
  have ih0 := corralref6_May.mono_l k
  unfold corralref6_May.f
  repeat' first
      | (with_reducible exact ih0 _ _ _ _)
      | (with_reducible exact LeO.refl _)
      | (with_reducible exact LeO.none _)
      | (with_reducible refine LeO.ite ?_ ?_)
      | (with_reducible refine LeO.bind ?_ (fun _ => ?_))
      | exact ih0 _ _ _ _
      | exact LeO.none _
      | refine LeO.ite ?_ ?_
      | refine LeO.bind ?_ (fun _ => ?_)
set_option maxHeartbeats 8000000 in
set_option maxRecDepth 100000 in
theorem corralref6_May.calls (k : Nat) (a0 : Int) (a1 : Int) (a2 : Int) (r : Bool) (w : World) (h : corralref6_May.f k a0 a1 a2 = some r) :
    Calls Try.prog 33 #[.int .u32 a0, .int .i64 a1, .int .i64 a2] w fun e w' => e = .returned (.bool r) ∧ Drawn0 w w' := by
  have H : ((corralref6_Bad.f a0).bind fun t128 => (if t128 = true then (corralref6_May.j0 k a0 a1 a2 true) else ((corralref6_Leaf.f a0).bind fun t129 => (corralref6_May.j0 k a0 a1 a2 (!t129))))) = some r := h
  clear h
  have HC4 := Aside0.mk H
  clear H
  go_enter Try.func33, Try.ntmps33
  go_upto_region 1 with (fail)
  go_cut [14] (fun v14 wc => ∃ (kq : Nat) (x14_3 : Bool), v14 = .bool x14_3 ∧ Aside0 (corralref6_May.j0 kq a0 a1 a2 x14_3 = some r) ∧ Aside0 (kq ≤ k) ∧ Drawn0 w wc)
  case first =>
    have H := HC4.out
    clear HC4
    replace H := Option.bind_eq_some_iff.mp H
    obtain ⟨t128, A50, H⟩ := H
    replace H : (if t128 = true then (corralref6_May.j0 k a0 a1 a2 true) else ((corralref6_Leaf.f a0).bind fun t129 => (corralref6_May.j0 k a0 a1 a2 (!t129)))) = some r := H
    have A5 := Aside0.mk A50
    clear A50
    by_cases c6 : t128 = true
    · subst c6
      have H1 : (corralref6_May.j0 k a0 a1 a2 true) = some r := by rw [if_pos rfl] at H; exact H
      clear H
      have H := H1
      clear H1
      have H' := Aside0.mk H
      clear H
      go_wp2_with (first | ((with_reducible refine gate_callee (f := 31) rfl ?_); refine goesL_ (some 9) rfl rfl Try.func31 (by kernel_rfl) rfl #[.int .u32 a0] rfl (by (try simp only [List.map_toArray, List.map_cons, List.map_nil]); first | done | rfl | (simp only [List.length_drop, List.length_take]; rfl)) ?_; (with_reducible refine (corralref6_Bad.calls a0 true _ A5.out).mono ?_); rintro e w' ⟨rfl, ⟨nd, rfl⟩⟩; refine ⟨_, rfl, ?_⟩))
      go_meet
      case rel => exact ⟨_, (true), (by first | rfl | (simp; done) | (simp [*]; done)), H', ⟨by first | omega | exact Nat.le_refl _⟩, by repeat (first | exact Drawn0.refl _ | apply Drawn0.step)⟩
    · replace c6 := Bool.eq_false_iff.mpr c6
      subst c6
      have H1 : ((corralref6_Leaf.f a0).bind fun t129 => (corralref6_May.j0 k a0 a1 a2 (!t129))) = some r := by rw [if_neg (show ¬ (false = true) by decide)] at H; exact H
      clear H
      have H := H1
      clear H1
      replace H := Option.bind_eq_some_iff.mp H
      obtain ⟨t129, A70, H⟩ := H
      replace H : (corralref6_May.j0 k a0 a1 a2 (!t129)) = some r := H
      have A7 := Aside0.mk A70
      clear A70
      have H' := Aside0.mk H
      clear H
      go_wp2_with (first | ((with_reducible refine gate_callee (f := 31) rfl ?_); refine goesL_ (some 9) rfl rfl Try.func31 (by kernel_rfl) rfl #[.int .u32 a0] rfl (by (try simp only [List.map_toArray, List.map_cons, List.map_nil]); first | done | rfl | (simp only [List.length_drop, List.length_take]; rfl)) ?_; (with_reducible refine (corralref6_Bad.calls a0 false _ A5.out).mono ?_); rintro e w' ⟨rfl, ⟨nd, rfl⟩⟩; refine ⟨_, rfl, ?_⟩) | (go_at_call 32; (with_reducible refine (corralref6_Leaf.calls a0 t129 _ A7.out).mono ?_); rintro e w' ⟨rfl, ⟨nd, rfl⟩⟩))
      go_meet
      case rel => exact ⟨_, (!t129), (by first | rfl | (simp; done) | (simp [*]; done)), H', ⟨by first | omega | exact Nat.le_refl _⟩, by repeat (first | exact Drawn0.refl _ | apply Drawn0.step)⟩
  case rest =>
    clear HC4
    try clear p2
    try clear c3
    try clear c6
    obtain ⟨kq, x14_3, rfl, HA, HJ3, ⟨mc3, rfl⟩⟩ := hcut
    cases kq with
    | zero => exact absurd HA.out (by simp [corralref6_May.j0])
    | succ kj3 =>
      have H := HA.out
      clear HA
      simp only [corralref6_May.j0] at H
      by_cases c8 : x14_3 = true
      · subst c8
        have H1 : (some false) = some r := by rw [if_pos rfl] at H; exact H
        clear H
        have H := H1
        clear H1
        obtain rfl := Option.some.inj H
        go_wp2
        go_ret
        exact ⟨by first | rfl | (simp; done) | (simp [*]; done), by repeat (first | exact Drawn0.refl _ | apply Drawn0.step)⟩
      · replace c8 := Bool.eq_false_iff.mpr c8
        subst c8
        have H1 : (if a1 = 1 then (if a2 = 0 then (if (Go.bits .and .u32 a0 8) = 0 then (some false) else (some (((Go.bits .and .u32 a0 16) != 0) == (a2 == 0)))) else (if a2 = 3 then (if (Go.bits .and .u32 a0 8) = 0 then (some false) else (some (((Go.bits .and .u32 a0 16) != 0) == (a2 == 0)))) else (some false))) else (if a1 = 2 then (if a2 = 0 then (if (Go.bits .and .u32 a0 2) = 0 then (some false) else (some (((Go.bits .and .u32 a0 16) != 0) == (a2 == 0)))) else (if a2 = 3 then (if (Go.bits .and .u32 a0 2) = 0 then (some false) else (some (((Go.bits .and .u32 a0 16) != 0) == (a2 == 0)))) else (some false))) else (if a1 = 3 then (if a2 = 0 then (if (Go.bits .and .u32 a0 4) = 0 then (some false) else (some (((Go.bits .and .u32 a0 16) != 0) == (a2 == 0)))) else (if a2 = 3 then (if (Go.bits .and .u32 a0 4) = 0 then (some false) else (some (((Go.bits .and .u32 a0 16) != 0) == (a2 == 0)))) else (some false))) else (if a2 = 0 then (if (Go.bits .and .u32 a0 0) = 0 then (some false) else (some (((Go.bits .and .u32 a0 16) != 0) == (a2 == 0)))) else (if a2 = 3 then (if (Go.bits .and .u32 a0 0) = 0 then (some false) else (some (((Go.bits .and .u32 a0 16) != 0) == (a2 == 0)))) else (some false)))))) = some r := by rw [if_neg (show ¬ (false = true) by decide)] at H; exact H
        clear H
        have H := H1
        clear H1
        by_cases c9 : a1 = 1
        · rw [if_pos c9] at H
          have c9b0 : (a1 == 1) = true := beq_iff_eq.mpr c9
          have c9b1 : (a1 != 1) = false := bne_eq_false_iff_eq.mpr c9
          clear c9
          by_cases c10 : a2 = 0
          · rw [if_pos c10] at H
            have c10b0 : (a2 == 0) = true := beq_iff_eq.mpr c10
            have c10b1 : (a2 != 0) = false := bne_eq_false_iff_eq.mpr c10
            clear c10
            by_cases c11 : (Go.bits .and .u32 a0 8) = 0
            · rw [if_pos c11] at H
              have c11b0 : ((Go.bits .and .u32 a0 8) == 0) = true := beq_iff_eq.mpr c11
              have c11b1 : ((Go.bits .and .u32 a0 8) != 0) = false := bne_eq_false_iff_eq.mpr c11
              clear c11
              obtain rfl := Option.some.inj H
              go_wp2
              go_ret
              exact ⟨by first | rfl | (simp; done) | (simp [*]; done), by repeat (first | exact Drawn0.refl _ | apply Drawn0.step)⟩
            · rw [if_neg c11] at H
              have c11b0 : ((Go.bits .and .u32 a0 8) == 0) = false := beq_eq_false_iff_ne.mpr c11
              have c11b1 : ((Go.bits .and .u32 a0 8) != 0) = true := bne_iff_ne.mpr c11
              obtain rfl := Option.some.inj H
              go_wp2
              go_ret
              exact ⟨by first | rfl | (simp; done) | (simp [*]; done), by repeat (first | exact Drawn0.refl _ | apply Drawn0.step)⟩
          · rw [if_neg c10] at H
            have c10b0 : (a2 == 0) = false := beq_eq_false_iff_ne.mpr c10
            have c10b1 : (a2 != 0) = true := bne_iff_ne.mpr c10
            by_cases c12 : a2 = 3
            · rw [if_pos c12] at H
              have c12b0 : (a2 == 3) = true := beq_iff_eq.mpr c12
              have c12b1 : (a2 != 3) = false := bne_eq_false_iff_eq.mpr c12
              clear c12
              by_cases c13 : (Go.bits .and .u32 a0 8) = 0
              · rw [if_pos c13] at H
                have c13b0 : ((Go.bits .and .u32 a0 8) == 0) = true := beq_iff_eq.mpr c13
                have c13b1 : ((Go.bits .and .u32 a0 8) != 0) = false := bne_eq_false_iff_eq.mpr c13
                clear c13
                obtain rfl := Option.some.inj H
                go_wp2
                go_ret
                exact ⟨by first | rfl | (simp; done) | (simp [*]; done), by repeat (first | exact Drawn0.refl _ | apply Drawn0.step)⟩
              · rw [if_neg c13] at H
                have c13b0 : ((Go.bits .and .u32 a0 8) == 0) = false := beq_eq_false_iff_ne.mpr c13
                have c13b1 : ((Go.bits .and .u32 a0 8) != 0) = true := bne_iff_ne.mpr c13
                obtain rfl := Option.some.inj H
                go_wp2
                go_ret
                exact ⟨by first | rfl | (simp; done) | (simp [*]; done), by repeat (first | exact Drawn0.refl _ | apply Drawn0.step)⟩
            · rw [if_neg c12] at H
              have c12b0 : (a2 == 3) = false := beq_eq_false_iff_ne.mpr c12
              have c12b1 : (a2 != 3) = true := bne_iff_ne.mpr c12
              obtain rfl := Option.some.inj H
              go_wp2
              go_ret
              exact ⟨by first | rfl | (simp; done) | (simp [*]; done), by repeat (first | exact Drawn0.refl _ | apply Drawn0.step)⟩
        · rw [if_neg c9] at H
          have c9b0 : (a1 == 1) = false := beq_eq_false_iff_ne.mpr c9
          have c9b1 : (a1 != 1) = true := bne_iff_ne.mpr c9
          by_cases c14 : a1 = 2
          · rw [if_pos c14] at H
            have c14b0 : (a1 == 2) = true := beq_iff_eq.mpr c14
            have c14b1 : (a1 != 2) = false := bne_eq_false_iff_eq.mpr c14
            clear c14
            by_cases c15 : a2 = 0
            · rw [if_pos c15] at H
              have c15b0 : (a2 == 0) = true := beq_iff_eq.mpr c15
              have c15b1 : (a2 != 0) = false := bne_eq_false_iff_eq.mpr c15
              clear c15
              by_cases c16 : (Go.bits .and .u32 a0 2) = 0
              · rw [if_pos c16] at H
                have c16b0 : ((Go.bits .and .u32 a0 2) == 0) = true := beq_iff_eq.mpr c16
                have c16b1 : ((Go.bits .and .u32 a0 2) != 0) = false := bne_eq_false_iff_eq.mpr c16
                clear c16
                obtain rfl := Option.some.inj H
                go_wp2
                go_ret
                exact ⟨by first | rfl | (simp; done) | (simp [*]; done), by repeat (first | exact Drawn0.refl _ | apply Drawn0.step)⟩
              · rw [if_neg c16] at H
                have c16b0 : ((Go.bits .and .u32 a0 2) == 0) = false := beq_eq_false_iff_ne.mpr c16
                have c16b1 : ((Go.bits .and .u32 a0 2) != 0) = true := bne_iff_ne.mpr c16
                obtain rfl := Option.some.inj H
                go_wp2
                go_ret
                exact ⟨by first | rfl | (simp; done) | (simp [*]; done), by repeat (first | exact Drawn0.refl _ | apply Drawn0.step)⟩
            · rw [if_neg c15] at H
              have c15b0 : (a2 == 0) = false := beq_eq_false_iff_ne.mpr c15
              have c15b1 : (a2 != 0) = true := bne_iff_ne.mpr c15
              by_cases c17 : a2 = 3
              · rw [if_pos c17] at H
                have c17b0 : (a2 == 3) = true := beq_iff_eq.mpr c17
                have c17b1 : (a2 != 3) = false := bne_eq_false_iff_eq.mpr c17
                clear c17
                by_cases c18 : (Go.bits .and .u32 a0 2) = 0
                · rw [if_pos c18] at H
                  have c18b0 : ((Go.bits .and .u32 a0 2) == 0) = true := beq_iff_eq.mpr c18
                  have c18b1 : ((Go.bits .and .u32 a0 2) != 0) = false := bne_eq_false_iff_eq.mpr c18
                  clear c18
                  obtain rfl := Option.some.inj H
                  go_wp2
                  go_ret
                  exact ⟨by first | rfl | (simp; done) | (simp [*]; done), by repeat (first | exact Drawn0.refl _ | apply Drawn0.step)⟩
                · rw [if_neg c18] at H
                  have c18b0 : ((Go.bits .and .u32 a0 2) == 0) = false := beq_eq_false_iff_ne.mpr c18
                  have c18b1 : ((Go.bits .and .u32 a0 2) != 0) = true := bne_iff_ne.mpr c18
                  obtain rfl := Option.some.inj H
                  go_wp2
                  go_ret
                  exact ⟨by first | rfl | (simp; done) | (simp [*]; done), by repeat (first | exact Drawn0.refl _ | apply Drawn0.step)⟩
              · rw [if_neg c17] at H
                have c17b0 : (a2 == 3) = false := beq_eq_false_iff_ne.mpr c17
                have c17b1 : (a2 != 3) = true := bne_iff_ne.mpr c17
                obtain rfl := Option.some.inj H
                go_wp2
                go_ret
                exact ⟨by first | rfl | (simp; done) | (simp [*]; done), by repeat (first | exact Drawn0.refl _ | apply Drawn0.step)⟩
          · rw [if_neg c14] at H
            have c14b0 : (a1 == 2) = false := beq_eq_false_iff_ne.mpr c14
            have c14b1 : (a1 != 2) = true := bne_iff_ne.mpr c14
            by_cases c19 : a1 = 3
            · rw [if_pos c19] at H
              have c19b0 : (a1 == 3) = true := beq_iff_eq.mpr c19
              have c19b1 : (a1 != 3) = false := bne_eq_false_iff_eq.mpr c19
              clear c19
              by_cases c20 : a2 = 0
              · rw [if_pos c20] at H
                have c20b0 : (a2 == 0) = true := beq_iff_eq.mpr c20
                have c20b1 : (a2 != 0) = false := bne_eq_false_iff_eq.mpr c20
                clear c20
                by_cases c21 : (Go.bits .and .u32 a0 4) = 0
                · rw [if_pos c21] at H
                  have c21b0 : ((Go.bits .and .u32 a0 4) == 0) = true := beq_iff_eq.mpr c21
                  have c21b1 : ((Go.bits .and .u32 a0 4) != 0) = false := bne_eq_false_iff_eq.mpr c21
                  clear c21
                  obtain rfl := Option.some.inj H
                  go_wp2
                  go_ret
                  exact ⟨by first | rfl | (simp; done) | (simp [*]; done), by repeat (first | exact Drawn0.refl _ | apply Drawn0.step)⟩
                · rw [if_neg c21] at H
                  have c21b0 : ((Go.bits .and .u32 a0 4) == 0) = false := beq_eq_false_iff_ne.mpr c21
                  have c21b1 : ((Go.bits .and .u32 a0 4) != 0) = true := bne_iff_ne.mpr c21
                  obtain rfl := Option.some.inj H
                  go_wp2
                  go_ret
                  exact ⟨by first | rfl | (simp; done) | (simp [*]; done), by repeat (first | exact Drawn0.refl _ | apply Drawn0.step)⟩
              · rw [if_neg c20] at H
                have c20b0 : (a2 == 0) = false := beq_eq_false_iff_ne.mpr c20
                have c20b1 : (a2 != 0) = true := bne_iff_ne.mpr c20
                by_cases c22 : a2 = 3
                · rw [if_pos c22] at H
                  have c22b0 : (a2 == 3) = true := beq_iff_eq.mpr c22
                  have c22b1 : (a2 != 3) = false := bne_eq_false_iff_eq.mpr c22
                  clear c22
                  by_cases c23 : (Go.bits .and .u32 a0 4) = 0
                  · rw [if_pos c23] at H
                    have c23b0 : ((Go.bits .and .u32 a0 4) == 0) = true := beq_iff_eq.mpr c23
                    have c23b1 : ((Go.bits .and .u32 a0 4) != 0) = false := bne_eq_false_iff_eq.mpr c23
                    clear c23
                    obtain rfl := Option.some.inj H
                    go_wp2
                    go_ret
                    exact ⟨by first | rfl | (simp; done) | (simp [*]; done), by repeat (first | exact Drawn0.refl _ | apply Drawn0.step)⟩
                  · rw [if_neg c23] at H
                    have c23b0 : ((Go.bits .and .u32 a0 4) == 0) = false := beq_eq_false_iff_ne.mpr c23
                    have c23b1 : ((Go.bits .and .u32 a0 4) != 0) = true := bne_iff_ne.mpr c23
                    obtain rfl := Option.some.inj H
                    go_wp2
                    go_ret
                    exact ⟨by first | rfl | (simp; done) | (simp [*]; done), by repeat (first | exact Drawn0.refl _ | apply Drawn0.step)⟩
                · rw [if_neg c22] at H
                  have c22b0 : (a2 == 3) = false := beq_eq_false_iff_ne.mpr c22
                  have c22b1 : (a2 != 3) = true := bne_iff_ne.mpr c22
                  obtain rfl := Option.some.inj H
                  go_wp2
                  go_ret
                  exact ⟨by first | rfl | (simp; done) | (simp [*]; done), by repeat (first | exact Drawn0.refl _ | apply Drawn0.step)⟩
            · rw [if_neg c19] at H
              have c19b0 : (a1 == 3) = false := beq_eq_false_iff_ne.mpr c19
              have c19b1 : (a1 != 3) = true := bne_iff_ne.mpr c19
              by_cases c24 : a2 = 0
              · rw [if_pos c24] at H
                have c24b0 : (a2 == 0) = true := beq_iff_eq.mpr c24
                have c24b1 : (a2 != 0) = false := bne_eq_false_iff_eq.mpr c24
                clear c24
                by_cases c25 : (Go.bits .and .u32 a0 0) = 0
                · rw [if_pos c25] at H
                  have c25b0 : ((Go.bits .and .u32 a0 0) == 0) = true := beq_iff_eq.mpr c25
                  have c25b1 : ((Go.bits .and .u32 a0 0) != 0) = false := bne_eq_false_iff_eq.mpr c25
                  clear c25
                  obtain rfl := Option.some.inj H
                  go_wp2
                  go_ret
                  exact ⟨by first | rfl | (simp; done) | (simp [*]; done), by repeat (first | exact Drawn0.refl _ | apply Drawn0.step)⟩
                · rw [if_neg c25] at H
                  have c25b0 : ((Go.bits .and .u32 a0 0) == 0) = false := beq_eq_false_iff_ne.mpr c25
                  have c25b1 : ((Go.bits .and .u32 a0 0) != 0) = true := bne_iff_ne.mpr c25
                  obtain rfl := Option.some.inj H
                  go_wp2
                  go_ret
                  exact ⟨by first | rfl | (simp; done) | (simp [*]; done), by repeat (first | exact Drawn0.refl _ | apply Drawn0.step)⟩
              · rw [if_neg c24] at H
                have c24b0 : (a2 == 0) = false := beq_eq_false_iff_ne.mpr c24
                have c24b1 : (a2 != 0) = true := bne_iff_ne.mpr c24
                by_cases c26 : a2 = 3
                · rw [if_pos c26] at H
                  have c26b0 : (a2 == 3) = true := beq_iff_eq.mpr c26
                  have c26b1 : (a2 != 3) = false := bne_eq_false_iff_eq.mpr c26
                  clear c26
                  by_cases c27 : (Go.bits .and .u32 a0 0) = 0
                  · rw [if_pos c27] at H
                    have c27b0 : ((Go.bits .and .u32 a0 0) == 0) = true := beq_iff_eq.mpr c27
                    have c27b1 : ((Go.bits .and .u32 a0 0) != 0) = false := bne_eq_false_iff_eq.mpr c27
                    clear c27
                    obtain rfl := Option.some.inj H
                    go_wp2
                    go_ret
                    exact ⟨by first | rfl | (simp; done) | (simp [*]; done), by repeat (first | exact Drawn0.refl _ | apply Drawn0.step)⟩
                  · rw [if_neg c27] at H
                    have c27b0 : ((Go.bits .and .u32 a0 0) == 0) = false := beq_eq_false_iff_ne.mpr c27
                    have c27b1 : ((Go.bits .and .u32 a0 0) != 0) = true := bne_iff_ne.mpr c27
                    obtain rfl := Option.some.inj H
                    go_wp2
                    go_ret
                    exact ⟨by first | rfl | (simp; done) | (simp [*]; done), by repeat (first | exact Drawn0.refl _ | apply Drawn0.step)⟩
                · rw [if_neg c26] at H
                  have c26b0 : (a2 == 3) = false := beq_eq_false_iff_ne.mpr c26
                  have c26b1 : (a2 != 3) = true := bne_iff_ne.mpr c26
                  obtain rfl := Option.some.inj H
                  go_wp2
                  go_ret
                  exact ⟨by first | rfl | (simp; done) | (simp [*]; done), by repeat (first | exact Drawn0.refl _ | apply Drawn0.step)⟩

/-! ### corralref6_Needs: function 34 -/
def corralref6_Needs.f (a0 : Int) (a1 : Int) : Option (Int) := if a1 = 3 then (some (Go.bits .or .u32 a0 192)) else (some (Go.bits .or .u32 a0 64))
set_option maxHeartbeats 8000000 in
set_option maxRecDepth 100000 in
theorem corralref6_Needs.calls (a0 : Int) (a1 : Int) (r : Int) (w : World) (h : corralref6_Needs.f a0 a1 = some r) :
    Calls Try.prog 34 #[.int .u32 a0, .int .i64 a1] w fun e w' => e = .returned (.int .u32 r) ∧ Drawn0 w w' := by
  have H : (if a1 = 3 then (some (Go.bits .or .u32 a0 192)) else (some (Go.bits .or .u32 a0 64))) = some r := h
  clear h
  by_cases c3 : a1 = 3
  · rw [if_pos c3] at H
    have c3b0 : (a1 == 3) = true := beq_iff_eq.mpr c3
    have c3b1 : (a1 != 3) = false := bne_eq_false_iff_eq.mpr c3
    clear c3
    obtain rfl := Option.some.inj H
    go_enter Try.func34, Try.ntmps34
    go_wp2
    go_ret
    exact ⟨by first | rfl | (simp; done) | (simp [*]; done), by repeat (first | exact Drawn0.refl _ | apply Drawn0.step)⟩
  · rw [if_neg c3] at H
    have c3b0 : (a1 == 3) = false := beq_eq_false_iff_ne.mpr c3
    have c3b1 : (a1 != 3) = true := bne_iff_ne.mpr c3
    obtain rfl := Option.some.inj H
    go_enter Try.func34, Try.ntmps34
    go_wp2
    go_ret
    exact ⟨by first | rfl | (simp; done) | (simp [*]; done), by repeat (first | exact Drawn0.refl _ | apply Drawn0.step)⟩

/-! ### pte_Cause: function 35 -/
def pte_Cause.f (a0 : Int) (a1 : Bool) : Option (Int) := if a0 = 1 then (if a1 = true then (some 12) else (some 1)) else (if a0 = 2 then (if a1 = true then (some 13) else (some 5)) else (if a0 = 3 then (if a1 = true then (some 15) else (some 7)) else (some 2)))
set_option maxHeartbeats 8000000 in
set_option maxRecDepth 100000 in
theorem pte_Cause.calls (a0 : Int) (a1 : Bool) (r : Int) (w : World) (h : pte_Cause.f a0 a1 = some r) :
    Calls Try.prog 35 #[.int .i64 a0, .bool a1] w fun e w' => e = .returned (.int .u32 r) ∧ Drawn0 w w' := by
  have H : (if a0 = 1 then (if a1 = true then (some 12) else (some 1)) else (if a0 = 2 then (if a1 = true then (some 13) else (some 5)) else (if a0 = 3 then (if a1 = true then (some 15) else (some 7)) else (some 2)))) = some r := h
  clear h
  by_cases c3 : a0 = 1
  · rw [if_pos c3] at H
    have c3b0 : (a0 == 1) = true := beq_iff_eq.mpr c3
    have c3b1 : (a0 != 1) = false := bne_eq_false_iff_eq.mpr c3
    clear c3
    by_cases c4 : a1 = true
    · subst c4
      have H1 : (some 12) = some r := by rw [if_pos rfl] at H; exact H
      clear H
      have H := H1
      clear H1
      obtain rfl := Option.some.inj H
      go_enter Try.func35, Try.ntmps35
      go_wp2
      go_ret
      exact ⟨by first | rfl | (simp; done) | (simp [*]; done), by repeat (first | exact Drawn0.refl _ | apply Drawn0.step)⟩
    · replace c4 := Bool.eq_false_iff.mpr c4
      subst c4
      have H1 : (some 1) = some r := by rw [if_neg (show ¬ (false = true) by decide)] at H; exact H
      clear H
      have H := H1
      clear H1
      obtain rfl := Option.some.inj H
      go_enter Try.func35, Try.ntmps35
      go_wp2
      go_ret
      exact ⟨by first | rfl | (simp; done) | (simp [*]; done), by repeat (first | exact Drawn0.refl _ | apply Drawn0.step)⟩
  · rw [if_neg c3] at H
    have c3b0 : (a0 == 1) = false := beq_eq_false_iff_ne.mpr c3
    have c3b1 : (a0 != 1) = true := bne_iff_ne.mpr c3
    by_cases c5 : a0 = 2
    · rw [if_pos c5] at H
      have c5b0 : (a0 == 2) = true := beq_iff_eq.mpr c5
      have c5b1 : (a0 != 2) = false := bne_eq_false_iff_eq.mpr c5
      clear c5
      by_cases c6 : a1 = true
      · subst c6
        have H1 : (some 13) = some r := by rw [if_pos rfl] at H; exact H
        clear H
        have H := H1
        clear H1
        obtain rfl := Option.some.inj H
        go_enter Try.func35, Try.ntmps35
        go_wp2
        go_ret
        exact ⟨by first | rfl | (simp; done) | (simp [*]; done), by repeat (first | exact Drawn0.refl _ | apply Drawn0.step)⟩
      · replace c6 := Bool.eq_false_iff.mpr c6
        subst c6
        have H1 : (some 5) = some r := by rw [if_neg (show ¬ (false = true) by decide)] at H; exact H
        clear H
        have H := H1
        clear H1
        obtain rfl := Option.some.inj H
        go_enter Try.func35, Try.ntmps35
        go_wp2
        go_ret
        exact ⟨by first | rfl | (simp; done) | (simp [*]; done), by repeat (first | exact Drawn0.refl _ | apply Drawn0.step)⟩
    · rw [if_neg c5] at H
      have c5b0 : (a0 == 2) = false := beq_eq_false_iff_ne.mpr c5
      have c5b1 : (a0 != 2) = true := bne_iff_ne.mpr c5
      by_cases c7 : a0 = 3
      · rw [if_pos c7] at H
        have c7b0 : (a0 == 3) = true := beq_iff_eq.mpr c7
        have c7b1 : (a0 != 3) = false := bne_eq_false_iff_eq.mpr c7
        clear c7
        by_cases c8 : a1 = true
        · subst c8
          have H1 : (some 15) = some r := by rw [if_pos rfl] at H; exact H
          clear H
          have H := H1
          clear H1
          obtain rfl := Option.some.inj H
          go_enter Try.func35, Try.ntmps35
          go_wp2
          go_ret
          exact ⟨by first | rfl | (simp; done) | (simp [*]; done), by repeat (first | exact Drawn0.refl _ | apply Drawn0.step)⟩
        · replace c8 := Bool.eq_false_iff.mpr c8
          subst c8
          have H1 : (some 7) = some r := by rw [if_neg (show ¬ (false = true) by decide)] at H; exact H
          clear H
          have H := H1
          clear H1
          obtain rfl := Option.some.inj H
          go_enter Try.func35, Try.ntmps35
          go_wp2
          go_ret
          exact ⟨by first | rfl | (simp; done) | (simp [*]; done), by repeat (first | exact Drawn0.refl _ | apply Drawn0.step)⟩
      · rw [if_neg c7] at H
        have c7b0 : (a0 == 3) = false := beq_eq_false_iff_ne.mpr c7
        have c7b1 : (a0 != 3) = true := bne_iff_ne.mpr c7
        obtain rfl := Option.some.inj H
        go_enter Try.func35, Try.ntmps35
        go_wp2
        go_ret
        exact ⟨by first | rfl | (simp; done) | (simp [*]; done), by repeat (first | exact Drawn0.refl _ | apply Drawn0.step)⟩

/-! ### corralref6_Cause: function 36 -/
def corralref6_Cause.f (a0 : Int) (a1 : Bool) : Option (Int) := if a0 = 1 then (if a1 = true then (some 12) else (some 1)) else (if a0 = 2 then (if a1 = true then (some 13) else (some 5)) else (if a0 = 3 then (if a1 = true then (some 15) else (some 7)) else (some 2)))
set_option maxHeartbeats 8000000 in
set_option maxRecDepth 100000 in
theorem corralref6_Cause.calls (a0 : Int) (a1 : Bool) (r : Int) (w : World) (h : corralref6_Cause.f a0 a1 = some r) :
    Calls Try.prog 36 #[.int .i64 a0, .bool a1] w fun e w' => e = .returned (.int .u32 r) ∧ Drawn0 w w' := by
  have H : (if a0 = 1 then (if a1 = true then (some 12) else (some 1)) else (if a0 = 2 then (if a1 = true then (some 13) else (some 5)) else (if a0 = 3 then (if a1 = true then (some 15) else (some 7)) else (some 2)))) = some r := h
  clear h
  by_cases c3 : a0 = 1
  · rw [if_pos c3] at H
    have c3b0 : (a0 == 1) = true := beq_iff_eq.mpr c3
    have c3b1 : (a0 != 1) = false := bne_eq_false_iff_eq.mpr c3
    clear c3
    by_cases c4 : a1 = true
    · subst c4
      have H1 : (some 12) = some r := by rw [if_pos rfl] at H; exact H
      clear H
      have H := H1
      clear H1
      obtain rfl := Option.some.inj H
      go_enter Try.func36, Try.ntmps36
      go_wp2
      go_ret
      exact ⟨by first | rfl | (simp; done) | (simp [*]; done), by repeat (first | exact Drawn0.refl _ | apply Drawn0.step)⟩
    · replace c4 := Bool.eq_false_iff.mpr c4
      subst c4
      have H1 : (some 1) = some r := by rw [if_neg (show ¬ (false = true) by decide)] at H; exact H
      clear H
      have H := H1
      clear H1
      obtain rfl := Option.some.inj H
      go_enter Try.func36, Try.ntmps36
      go_wp2
      go_ret
      exact ⟨by first | rfl | (simp; done) | (simp [*]; done), by repeat (first | exact Drawn0.refl _ | apply Drawn0.step)⟩
  · rw [if_neg c3] at H
    have c3b0 : (a0 == 1) = false := beq_eq_false_iff_ne.mpr c3
    have c3b1 : (a0 != 1) = true := bne_iff_ne.mpr c3
    by_cases c5 : a0 = 2
    · rw [if_pos c5] at H
      have c5b0 : (a0 == 2) = true := beq_iff_eq.mpr c5
      have c5b1 : (a0 != 2) = false := bne_eq_false_iff_eq.mpr c5
      clear c5
      by_cases c6 : a1 = true
      · subst c6
        have H1 : (some 13) = some r := by rw [if_pos rfl] at H; exact H
        clear H
        have H := H1
        clear H1
        obtain rfl := Option.some.inj H
        go_enter Try.func36, Try.ntmps36
        go_wp2
        go_ret
        exact ⟨by first | rfl | (simp; done) | (simp [*]; done), by repeat (first | exact Drawn0.refl _ | apply Drawn0.step)⟩
      · replace c6 := Bool.eq_false_iff.mpr c6
        subst c6
        have H1 : (some 5) = some r := by rw [if_neg (show ¬ (false = true) by decide)] at H; exact H
        clear H
        have H := H1
        clear H1
        obtain rfl := Option.some.inj H
        go_enter Try.func36, Try.ntmps36
        go_wp2
        go_ret
        exact ⟨by first | rfl | (simp; done) | (simp [*]; done), by repeat (first | exact Drawn0.refl _ | apply Drawn0.step)⟩
    · rw [if_neg c5] at H
      have c5b0 : (a0 == 2) = false := beq_eq_false_iff_ne.mpr c5
      have c5b1 : (a0 != 2) = true := bne_iff_ne.mpr c5
      by_cases c7 : a0 = 3
      · rw [if_pos c7] at H
        have c7b0 : (a0 == 3) = true := beq_iff_eq.mpr c7
        have c7b1 : (a0 != 3) = false := bne_eq_false_iff_eq.mpr c7
        clear c7
        by_cases c8 : a1 = true
        · subst c8
          have H1 : (some 15) = some r := by rw [if_pos rfl] at H; exact H
          clear H
          have H := H1
          clear H1
          obtain rfl := Option.some.inj H
          go_enter Try.func36, Try.ntmps36
          go_wp2
          go_ret
          exact ⟨by first | rfl | (simp; done) | (simp [*]; done), by repeat (first | exact Drawn0.refl _ | apply Drawn0.step)⟩
        · replace c8 := Bool.eq_false_iff.mpr c8
          subst c8
          have H1 : (some 7) = some r := by rw [if_neg (show ¬ (false = true) by decide)] at H; exact H
          clear H
          have H := H1
          clear H1
          obtain rfl := Option.some.inj H
          go_enter Try.func36, Try.ntmps36
          go_wp2
          go_ret
          exact ⟨by first | rfl | (simp; done) | (simp [*]; done), by repeat (first | exact Drawn0.refl _ | apply Drawn0.step)⟩
      · rw [if_neg c7] at H
        have c7b0 : (a0 == 3) = false := beq_eq_false_iff_ne.mpr c7
        have c7b1 : (a0 != 3) = true := bne_iff_ne.mpr c7
        obtain rfl := Option.some.inj H
        go_enter Try.func36, Try.ntmps36
        go_wp2
        go_ret
        exact ⟨by first | rfl | (simp; done) | (simp [*]; done), by repeat (first | exact Drawn0.refl _ | apply Drawn0.step)⟩

end Go.Proofs.Ythpaieglgjjbiaa.QPteSays
