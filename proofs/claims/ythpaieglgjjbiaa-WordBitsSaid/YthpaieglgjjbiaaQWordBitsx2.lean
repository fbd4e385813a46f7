-- Laid by a program of this session (wip/tpl/mine.sh), out of the program's form in Lean: Lean checks it.
import Derived.Test.YthpaieglgjjbiaaQWordBitsx0
import Derived.Test.YthpaieglgjjbiaaQWordBitsx1
namespace Go.Proofs.Ythpaieglgjjbiaa.QWordBits
open Go.RowKit Go.Proofs.YthpaieglgjjbiaaW.PrintWords Go.Proofs.YthpaieglgjjbiaaW.PrintLast Go.Proofs.YthpaieglgjjbiaaW.PrintMore
attribute [local go_sem] max2_int min2_int max_two min_two max_three min_three max_four min_four   -- for this text's walks alone
set_option linter.unusedVariables false
set_option linter.unusedSimpArgs false

/-! ### corrallaw1_WordBits: function 7 -/
mutual
def corrallaw1_WordBits.l0 : Nat → Int → Int → Int → Int → Int → Bool → List (S37) → Int → Option (Bool)
  | 0, _, _, _, _, _, _, _, _ => none
  | k + 1, x0, x1, x2, x3, x4, x11, x12, x13 => if x13 ≥ 0 then ((word_Bits.f x0 x13 1).bind fun t115 => (if x12.length < 5864062014805 then (corrallaw1_WordBits.l0 k x0 x1 x2 x3 x4 x11 (x12 ++ [(⟨x13, 1, t115⟩ : S37)]) (wrap64 (x13 - 1))) else (none))) else ((word_Bits.f x0 (Go.bits .and .i64 x1 15) (wrap64 ((Go.bits .and .i64 x2 15) + 1))).bind fun t119 => (if (wrap64 ((Go.bits .and .i64 x3 7) + (wrap64 ((Go.bits .and .i64 x4 7) + 1)))) ≤ (wrap64 ((Go.bits .and .i64 x2 15) + 1)) then ((word_Bits.f t119 (Go.bits .and .i64 x3 7) (wrap64 ((Go.bits .and .i64 x4 7) + 1))).bind fun t120 => ((word_Bits.f x0 (wrap64 ((Go.bits .and .i64 x1 15) + (Go.bits .and .i64 x3 7))) (wrap64 ((Go.bits .and .i64 x4 7) + 1))).bind fun t121 => (corrallaw1_WordBits.j1 k x0 (Go.bits .and .i64 x1 15) (wrap64 ((Go.bits .and .i64 x2 15) + 1)) x11 x12 t119 (t120 != t121)))) else (corrallaw1_WordBits.j1 k x0 (Go.bits .and .i64 x1 15) (wrap64 ((Go.bits .and .i64 x2 15) + 1)) x11 x12 t119 false)))
def corrallaw1_WordBits.j1 : Nat → Int → Int → Int → Bool → List (S37) → Int → Bool → Option (Bool)
  | 0, _, _, _, _, _, _, _ => none
  | k + 1, x0, x1, x2, x11, x12, x14, x61 => if x61 = true then (some false) else (if x11 = true then ((word_Pack.f k x12).bind fun t122 => (if t122 = x0 then (if (wrap64 (x1 + x2)) > 32 then ((word_Pack.f k ([] : List (S37))).bind fun t123 => (some (t123 == 0))) else ((word_Left.f x0 (wrap64 ((wrap64 (32 - x1)) - x2))).bind fun t124 => ((word_Right.f t124 (wrap64 (32 - x2)) false).bind fun t125 => (if x14 = t125 then ((word_Pack.f k ([] : List (S37))).bind fun t126 => (some (t126 == 0))) else (some false))))) else (some false))) else (some false))
end
def corrallaw1_WordBits.f (k : Nat) (a0 : Int) (a1 : Int) (a2 : Int) (a3 : Int) (a4 : Int) : Option (Bool) := (corrallaw1_first.f k).bind fun t114 => (if t114 = true then (corrallaw1_WordBits.l0 k a0 a1 a2 a3 a4 t114 ([] : List (S37)) 31) else (some false))
theorem corrallaw1_WordBits.mono_l : ∀ k, (∀ y0 y1 y2 y3 y4 y5 y6 y7, LeO (corrallaw1_WordBits.l0 k y0 y1 y2 y3 y4 y5 y6 y7) (corrallaw1_WordBits.l0 (k + 1) y0 y1 y2 y3 y4 y5 y6 y7)) ∧ (∀ y0 y1 y2 y3 y4 y5 y6, LeO (corrallaw1_WordBits.j1 k y0 y1 y2 y3 y4 y5 y6) (corrallaw1_WordBits.j1 (k + 1) y0 y1 y2 y3 y4 y5 y6))
  | 0 => ⟨fun _ _ _ _ _ _ _ _ r h => by simp [corrallaw1_WordBits.l0] at h, fun _ _ _ _ _ _ _ r h => by simp [corrallaw1_WordBits.j1] at h⟩
  | k + 1 => by
    obtain ⟨ih0, ih1⟩ := corrallaw1_WordBits.mono_l k
    refine ⟨?_, ?_⟩
    · intro y0 y1 y2 y3 y4 y5 y6 y7
      unfold corrallaw1_WordBits.l0
      repeat' first
      | (with_reducible exact ih0 _ _ _ _ _ _ _ _)
      | (with_reducible exact ih1 _ _ _ _ _ _ _)
      | (with_reducible exact corrallaw1_first.mono _)
      | (with_reducible exact word_Pack.mono _ _)
      | (with_reducible exact LeO.refl _)
      | (with_reducible exact LeO.none _)
      | (with_reducible refine LeO.ite ?_ ?_)
      | (with_reducible refine LeO.bind ?_ (fun _ => ?_))
      | exact ih0 _ _ _ _ _ _ _ _
      | exact ih1 _ _ _ _ _ _ _
      | exact corrallaw1_first.mono _
      | exact word_Pack.mono _ _
      | exact LeO.none _
      | refine LeO.ite ?_ ?_
      | refine LeO.bind ?_ (fun _ => ?_)
    · intro y0 y1 y2 y3 y4 y5 y6
      unfold corrallaw1_WordBits.j1
      repeat' first
      | (with_reducible exact ih0 _ _ _ _ _ _ _ _)
      | (with_reducible exact ih1 _ _ _ _ _ _ _)
      | (with_reducible exact corrallaw1_first.mono _)
      | (with_reducible exact word_Pack.mono _ _)
      | (with_reducible exact LeO.refl _)
      | (with_reducible exact LeO.none _)
      | (with_reducible refine LeO.ite ?_ ?_)
      | (with_reducible refine LeO.bind ?_ (fun _ => ?_))
      | exact ih0 _ _ _ _ _ _ _ _
      | exact ih1 _ _ _ _ _ _ _
      | exact corrallaw1_first.mono _
      | exact word_Pack.mono _ _
      | exact LeO.none _
      | refine LeO.ite ?_ ?_
      | refine LeO.bind ?_ (fun _ => ?_)
theorem corrallaw1_WordBits.mono : ∀ a0 a1 a2 a3 a4 k, LeO (corrallaw1_WordBits.f k a0 a1 a2 a3 a4) (corrallaw1_WordBits.f (k + 1) a0 a1 a2 a3 a4) := by
  intro a0 a1 a2 a3 a4 k
  obtain ⟨ih0, ih1⟩ := corrallaw1_WordBits.mono_l k
  unfold corrallaw1_WordBits.f
  repeat' first
      | (with_reducible exact ih0 _ _ _ _ _ _ _ _)
      | (with_reducible exact ih1 _ _ _ _ _ _ _)
      | (with_reducible exact corrallaw1_first.mono _)
      | (with_reducible exact word_Pack.mono _ _)
      | (with_reducible exact LeO.refl _)
      | (with_reducible exact LeO.none _)
      | (with_reducible refine LeO.ite ?_ ?_)
      | (with_reducible refine LeO.bind ?_ (fun _ => ?_))
      | exact ih0 _ _ _ _ _ _ _ _
      | exact ih1 _ _ _ _ _ _ _
      | exact corrallaw1_first.mono _
      | exact word_Pack.mono _ _
      | exact LeO.none _
      | refine LeO.ite ?_ ?_
      | refine LeO.bind ?_ (fun _ => ?_)
set_option maxHeartbeats 8000000 in
set_option maxRecDepth 100000 in
theorem corrallaw1_WordBits.calls (k : Nat) (a0 : Int) (a1 : Int) (a2 : Int) (a3 : Int) (a4 : Int) (r : Bool) (w : World) (h : corrallaw1_WordBits.f k a0 a1 a2 a3 a4 = some r) (hr0 : r = true) :
    Calls Try.prog 7 #[.int .u32 a0, .int .i64 a1, .int .i64 a2, .int .i64 a3, .int .i64 a4] w fun e w' => e = .returned (.bool r) ∧ Below w.heap.size w w' := by
  have hu37 := Try.underlying37
  have HB := Aside0.mk (Below.refl w.heap.size w)
  have H : ((corrallaw1_first.f k).bind fun t114 => (if t114 = true then (corrallaw1_WordBits.l0 k a0 a1 a2 a3 a4 t114 ([] : List (S37)) 31) else (some false))) = some r := h
  clear h
  have HRT := Aside0.mk hr0
  clear hr0
  replace H := Option.bind_eq_some_iff.mp H
  obtain ⟨t114, A60, H⟩ := H
  replace H : (if t114 = true then (corrallaw1_WordBits.l0 k a0 a1 a2 a3 a4 t114 ([] : List (S37)) 31) else (some false)) = some r := H
  have A6 := Aside0.mk A60
  clear A60
  by_cases c7 : t114 = true
  · subst c7
    have H1 : (corrallaw1_WordBits.l0 k a0 a1 a2 a3 a4 true ([] : List (S37)) 31) = some r := by rw [if_pos rfl] at H; exact H
    clear H
    have H := H1
    clear H1
    have H' := Aside0.mk H
    clear H
    go_enter Try.func7, Try.ntmps7
    go_wp2_with (first | ((with_reducible refine gate_callee (f := 20) rfl ?_); refine goesL_ (some 15) rfl rfl Try.func20 (by kernel_rfl) rfl #[] rfl (by (try simp only [List.map_toArray, List.map_cons, List.map_nil]); first | done | rfl | (simp only [List.length_drop, List.length_take]; rfl)) ?_; (with_reducible refine (corrallaw1_first.calls k  true _ A6.out).mono ?_); rintro e w8 ⟨rfl, hb⟩; refine ⟨_, rfl, ?_⟩; have n0_ := Aside0.mk (below_step (by repeat (first | (with_reducible first | exact HB.out | apply below_alloc | apply pw_below_drewN | apply below_drew1) | exact HB.out)) hb); clear HB; have HB := n0_; clear n0_; (try clear hb); (try clear hb2); (try clear hk); (try clear hi)))
    go_loopg [12, 13] k (fun kq v12 v13 w' => ∃ (x12_1 : List (S37)) (x13_1 : Int), v13 = .int .i64 x13_1 ∧ Aside0 (corrallaw1_WordBits.l0 kq a0 a1 a2 a3 a4 true x12_1 x13_1 = some r) ∧ Aside0 (kq ≤ k) ∧ Aside0 (Kd.R k37 37 w' w.heap.size (fun _ => True) v12 x12_1) ∧ Aside0 (Below w.heap.size w w'))
    case atStart => exact ⟨(([] : List (S37))), (31), (by first | rfl | (simp; done) | (simp [*]; done)), H', ⟨Nat.le_refl _⟩, ⟨by first | exact Kd.R_nil _ _ _ _ _ | exact Kd.N_nil _ _ _ _ _ | exact Kd.V_nil _ _ _ _ _ | exact Kd.Q_nil _ _ _ _ _ | exact Kd.S_nil _ _ _ _ _⟩, ⟨by repeat (first | (with_reducible first | exact HB.out | apply below_alloc | apply pw_below_drewN | apply below_drew1) | exact HB.out)⟩⟩
    case round =>
      clear H'
      try clear c2
      try clear p2
      try clear c7
      obtain ⟨x12_1, x13_1, rfl, HA, HK1, HO_12, HB⟩ := hrel
      cases gk with
      | zero => exact absurd HA.out (by simp [corrallaw1_WordBits.l0])
      | succ k1 =>
        have H := HA.out
        clear HA
        simp only [corrallaw1_WordBits.l0] at H
        by_cases c9 : x13_1 ≥ 0
        · rw [if_pos c9] at H
          have c9b0 : decide (0 ≤ x13_1) = true := decide_eq_true c9
          clear c9
          replace H := Option.bind_eq_some_iff.mp H
          obtain ⟨t115, A100, H⟩ := H
          replace H : (if x12_1.length < 5864062014805 then (corrallaw1_WordBits.l0 k1 a0 a1 a2 a3 a4 true (x12_1 ++ [(⟨x13_1, 1, t115⟩ : S37)]) (wrap64 (x13_1 - 1))) else (none)) = some r := H
          have A10 := Aside0.mk A100
          clear A100
          by_cases c11 : x12_1.length < 5864062014805
          · rw [if_pos c11] at H
            have LMc11 := Aside0.mk c11
            clear c11
            obtain ⟨y116, hy116⟩ : ∃ y_ : List (S37), y_ = (x12_1 ++ [(⟨x13_1, 1, t115⟩ : S37)]) := ⟨_, rfl⟩
            replace H : (corrallaw1_WordBits.l0 k1 a0 a1 a2 a3 a4 true y116 (wrap64 (x13_1 - 1))) = some r := by first | (rw [hy116]; with_reducible exact H) | (have H2_ := (Option.bind_some _ _).symm.trans H; rw [hy116]; with_reducible exact H2_) | (have H2_ := (Option.bind_some _ _).symm.trans H; with_reducible exact H2_) | with_reducible exact H | (rw [hy116]; exact H) | exact H
            have Ny116 := Aside0.mk hy116
            clear hy116
            have H' := Aside0.mk H
            clear H
            go_wp2_with (first | ((with_reducible refine gate_callee (f := 23) rfl ?_); refine goesL_ (some 26) rfl rfl Try.func23 (by kernel_rfl) rfl #[.int .u32 a0, .int .i64 x13_1, .int .i64 1] rfl (by (try simp only [List.map_toArray, List.map_cons, List.map_nil]); first | done | rfl | (simp only [List.length_drop, List.length_take]; rfl)) ?_; (with_reducible refine (word_Bits.calls a0 x13_1 1 t115 _ A10.out).mono ?_); rintro e w12 ⟨rfl, hb⟩; refine ⟨_, rfl, ?_⟩; have n0_ := Aside0.mk (Kd.R_below (by (with_reducible repeat (first | apply Kd.R_alloc | apply Kd.R_drewN | apply Kd.R_drew)); exact HO_12.out) hb); have n1_ := Aside0.mk (below_step (by repeat (first | (with_reducible first | exact HB.out | apply below_alloc | apply pw_below_drewN | apply below_drew1) | exact HB.out)) hb); clear HO_12; clear HB; have HO_12 := n0_; have HB := n1_; clear n0_ n1_; (try clear hb); (try clear hb2); (try clear hk); (try clear hi)) | ((with_reducible refine gate_builtin (b := .append) (xs := #[.tmp 22, .tmp 28]) rfl ?_); at_builtin; refine Kd.R_append k37 (w0 := w) w.heap.size rfl (.tmp 22) (.tmp 28) 33 37 (.agg #[(.int .i64 0), (.int .i64 0), (.int .u32 0)]) 24 rfl Try.underlying33 info37 rfl (by decide) (by omega) u12 x12_1 (⟨x13_1, 1, t115⟩ : S37) [.int .i64 x13_1, .int .i64 1, .int .u32 t115] (fun _ => True) (fun _ => False) rfl rfl ?aP (fun _ hk => hk.elim) ?aF ?aO ?aB ?aS ?aL ?_; (case aP => exact k37_mkM _ _ _ (⟨x13_1, 1, t115⟩ : S37)); (case aB => exact (by repeat (first | (with_reducible first | exact HB.out | apply below_alloc | apply pw_below_drewN | apply below_drew1) | exact HB.out))); (case aF => exact (fun _ _ => trivial)); (case aO => exact (by (with_reducible repeat (first | apply Kd.R_alloc | apply Kd.R_drewN | apply Kd.R_drew)); exact HO_12.out)); (case aS => exact (below_size (by repeat (first | (with_reducible first | exact HB.out | apply below_alloc | apply pw_below_drewN | apply below_drew1) | exact HB.out)))); (case aL => have := LMc11.out; omega); intro v117 w13 ho hb hg hat; rw [← Ny116.out] at ho; have n0_ := Aside0.mk (hb); have n1_ := Aside0.mk (ho); clear HB; clear HO_12; have HB := n0_; have HO118 := n1_; clear n0_ n1_; clear ho hb hg hat))
            go_roundg k1
            case measure => have := HK1.out; omega
            case rel => exact ⟨(y116), (wrap64 (x13_1 - 1)), (by first | rfl | (simp; done) | (simp [*]; done)), H', ⟨by have := HK1.out; omega⟩, ⟨by (with_reducible repeat (first | apply Kd.R_alloc | apply Kd.R_drewN | apply Kd.R_drew)); exact HO118.out⟩, ⟨by repeat (first | (with_reducible first | exact HB.out | apply below_alloc | apply pw_below_drewN | apply below_drew1) | exact HB.out)⟩⟩
          · rw [if_neg c11] at H
            exact absurd H (by simp)
        · rw [if_neg c9] at H
          have c9b0 : decide (0 ≤ x13_1) = false := decide_eq_false c9
          clear c9
          replace H := Option.bind_eq_some_iff.mp H
          obtain ⟨t119, A140, H⟩ := H
          replace H : (if (wrap64 ((Go.bits .and .i64 a3 7) + (wrap64 ((Go.bits .and .i64 a4 7) + 1)))) ≤ (wrap64 ((Go.bits .and .i64 a2 15) + 1)) then ((word_Bits.f t119 (Go.bits .and .i64 a3 7) (wrap64 ((Go.bits .and .i64 a4 7) + 1))).bind fun t120 => ((word_Bits.f a0 (wrap64 ((Go.bits .and .i64 a1 15) + (Go.bits .and .i64 a3 7))) (wrap64 ((Go.bits .and .i64 a4 7) + 1))).bind fun t121 => (corrallaw1_WordBits.j1 k1 a0 (Go.bits .and .i64 a1 15) (wrap64 ((Go.bits .and .i64 a2 15) + 1)) true x12_1 t119 (t120 != t121)))) else (corrallaw1_WordBits.j1 k1 a0 (Go.bits .and .i64 a1 15) (wrap64 ((Go.bits .and .i64 a2 15) + 1)) true x12_1 t119 false)) = some r := H
          have A14 := Aside0.mk A140
          clear A140
          have HC15 := Aside0.mk H
          clear H
          go_upto_region 14 with (first | ((with_reducible refine gate_callee (f := 23) rfl ?_); refine goesL_ (some 43) rfl rfl Try.func23 (by kernel_rfl) rfl #[.int .u32 a0, .int .i64 (Go.bits .and .i64 a1 15), .int .i64 (wrap64 ((Go.bits .and .i64 a2 15) + 1))] rfl (by (try simp only [List.map_toArray, List.map_cons, List.map_nil]); first | done | rfl | (simp only [List.length_drop, List.length_take]; rfl)) ?_; (with_reducible refine (word_Bits.calls a0 (Go.bits .and .i64 a1 15) (wrap64 ((Go.bits .and .i64 a2 15) + 1)) t119 _ A14.out).mono ?_); rintro e w16 ⟨rfl, hb⟩; refine ⟨_, rfl, ?_⟩; have n0_ := Aside0.mk (Kd.R_below (by (with_reducible repeat (first | apply Kd.R_alloc | apply Kd.R_drewN | apply Kd.R_drew)); exact HO_12.out) hb); have n1_ := Aside0.mk (below_step (by repeat (first | (with_reducible first | exact HB.out | apply below_alloc | apply pw_below_drewN | apply below_drew1) | exact HB.out)) hb); clear HO_12; clear HB; have HO_12 := n0_; have HB := n1_; clear n0_ n1_; (try clear hb); (try clear hb2); (try clear hk); (try clear hi)))
          (try simp only [Act.put, List.setIfInBounds_toArray, List.set_cons_zero, List.set_cons_succ])
          go_cut [61] (fun v61 wc => ∃ (kq : Nat) (x61_14 : Bool), v61 = .bool x61_14 ∧ Aside0 (corrallaw1_WordBits.j1 kq a0 (Go.bits .and .i64 a1 15) (wrap64 ((Go.bits .and .i64 a2 15) + 1)) true x12_1 t119 x61_14 = some r) ∧ Aside0 (kq ≤ k1) ∧ Aside0 (Kd.R k37 37 wc w.heap.size (fun _ => True) u12 x12_1) ∧ Aside0 (Below w.heap.size w wc))
          case first =>
            have H := HC15.out
            clear HC15
            by_cases c17 : (wrap64 ((Go.bits .and .i64 a3 7) + (wrap64 ((Go.bits .and .i64 a4 7) + 1)))) ≤ (wrap64 ((Go.bits .and .i64 a2 15) + 1))
            · rw [if_pos c17] at H
              have c17b0 : decide ((wrap64 ((Go.bits .and .i64 a3 7) + (wrap64 ((Go.bits .and .i64 a4 7) + 1)))) ≤ (wrap64 ((Go.bits .and .i64 a2 15) + 1))) = true := decide_eq_true c17
              clear c17
              (first | rw [c17b0] | (simp only [i64_w, i32_w]; rw [c17b0]) | skip)
              replace H := Option.bind_eq_some_iff.mp H
              obtain ⟨t120, A180, H⟩ := H
              replace H : ((word_Bits.f a0 (wrap64 ((Go.bits .and .i64 a1 15) + (Go.bits .and .i64 a3 7))) (wrap64 ((Go.bits .and .i64 a4 7) + 1))).bind fun t121 => (corrallaw1_WordBits.j1 k1 a0 (Go.bits .and .i64 a1 15) (wrap64 ((Go.bits .and .i64 a2 15) + 1)) true x12_1 t119 (t120 != t121))) = some r := H
              have A18 := Aside0.mk A180
              clear A180
              replace H := Option.bind_eq_some_iff.mp H
              obtain ⟨t121, A190, H⟩ := H
              replace H : (corrallaw1_WordBits.j1 k1 a0 (Go.bits .and .i64 a1 15) (wrap64 ((Go.bits .and .i64 a2 15) + 1)) true x12_1 t119 (t120 != t121)) = some r := H
              have A19 := Aside0.mk A190
              clear A190
              have H' := Aside0.mk H
              clear H
              go_wp2_with (first | (go_at_call 23; (with_reducible refine (word_Bits.calls t119 (Go.bits .and .i64 a3 7) (wrap64 ((Go.bits .and .i64 a4 7) + 1)) t120 _ A18.out).mono ?_); rintro e w20 ⟨rfl, hb⟩; have n0_ := Aside0.mk (Kd.R_below (by (with_reducible repeat (first | apply Kd.R_alloc | apply Kd.R_drewN | apply Kd.R_drew)); exact HO_12.out) hb); have n1_ := Aside0.mk (below_step (by repeat (first | (with_reducible first | exact HB.out | apply below_alloc | apply pw_below_drewN | apply below_drew1) | exact HB.out)) hb); clear HO_12; clear HB; have HO_12 := n0_; have HB := n1_; clear n0_ n1_; (try clear hb); (try clear hb2); (try clear hk); (try clear hi)) | (go_at_call 23; (with_reducible refine (word_Bits.calls a0 (wrap64 ((Go.bits .and .i64 a1 15) + (Go.bits .and .i64 a3 7))) (wrap64 ((Go.bits .and .i64 a4 7) + 1)) t121 _ A19.out).mono ?_); rintro e w21 ⟨rfl, hb⟩; have n0_ := Aside0.mk (Kd.R_below (by (with_reducible repeat (first | apply Kd.R_alloc | apply Kd.R_drewN | apply Kd.R_drew)); exact HO_12.out) hb); have n1_ := Aside0.mk (below_step (by repeat (first | (with_reducible first | exact HB.out | apply below_alloc | apply pw_below_drewN | apply below_drew1) | exact HB.out)) hb); clear HO_12; clear HB; have HO_12 := n0_; have HB := n1_; clear n0_ n1_; (try clear hb); (try clear hb2); (try clear hk); (try clear hi)))
              go_meet
              case rel => exact ⟨_, ((t120 != t121)), (by first | rfl | (simp; done) | (simp [*]; done)), H', ⟨by have := HK1.out; first | omega | exact Nat.le_refl _⟩, ⟨by (with_reducible repeat (first | apply Kd.R_alloc | apply Kd.R_drewN | apply Kd.R_drew)); exact HO_12.out⟩, ⟨by repeat (first | (with_reducible first | exact HB.out | apply below_alloc | apply pw_below_drewN | apply below_drew1) | exact HB.out)⟩⟩
            · rw [if_neg c17] at H
              have c17b0 : decide ((wrap64 ((Go.bits .and .i64 a3 7) + (wrap64 ((Go.bits .and .i64 a4 7) + 1)))) ≤ (wrap64 ((Go.bits .and .i64 a2 15) + 1))) = false := decide_eq_false c17
              clear c17
              (first | rw [c17b0] | (simp only [i64_w, i32_w]; rw [c17b0]) | skip)
              have H' := Aside0.mk H
              clear H
              go_wp2
              go_meet
              case rel => exact ⟨_, (false), (by first | rfl | (simp; done) | (simp [*]; done)), H', ⟨by have := HK1.out; first | omega | exact Nat.le_refl _⟩, ⟨by (with_reducible repeat (first | apply Kd.R_alloc | apply Kd.R_drewN | apply Kd.R_drew)); exact HO_12.out⟩, ⟨by repeat (first | (with_reducible first | exact HB.out | apply below_alloc | apply pw_below_drewN | apply below_drew1) | exact HB.out)⟩⟩
          case rest =>
            clear HC15
            try clear c1
            try clear c2
            try clear p2
            try clear p6
            try clear c7
            try clear c9
            try clear c9b0
            try clear c11
            try clear c17
            try clear c17b0
            try clear c20
            try clear p2
            obtain ⟨kq, x61_14, rfl, HA, HJ14, HO_12, HB⟩ := hcut
            cases kq with
            | zero => exact absurd HA.out (by simp [corrallaw1_WordBits.j1])
            | succ kj14 =>
              have H := HA.out
              clear HA
              simp only [corrallaw1_WordBits.j1] at H
              by_cases c22 : x61_14 = true
              · subst c22
                have H1 : (some false) = some r := by rw [if_pos rfl] at H; exact H
                clear H
                have H := H1
                clear H1
                exact absurd (Option.some.inj H) (by rw [HRT.out]; decide)
              · replace c22 := Bool.eq_false_iff.mpr c22
                subst c22
                have H1 : (if true = true then ((word_Pack.f kj14 x12_1).bind fun t122 => (if t122 = a0 then (if (wrap64 ((Go.bits .and .i64 a1 15) + (wrap64 ((Go.bits .and .i64 a2 15) + 1)))) > 32 then ((word_Pack.f kj14 ([] : List (S37))).bind fun t123 => (some (t123 == 0))) else ((word_Left.f a0 (wrap64 ((wrap64 (32 - (Go.bits .and .i64 a1 15))) - (wrap64 ((Go.bits .and .i64 a2 15) + 1))))).bind fun t124 => ((word_Right.f t124 (wrap64 (32 - (wrap64 ((Go.bits .and .i64 a2 15) + 1)))) false).bind fun t125 => (if t119 = t125 then ((word_Pack.f kj14 ([] : List (S37))).bind fun t126 => (some (t126 == 0))) else (some false))))) else (some false))) else (some false)) = some r := by rw [if_neg (show ¬ (false = true) by decide)] at H; exact H
                clear H
                have H := H1
                clear H1
                replace H : ((word_Pack.f kj14 x12_1).bind fun t122 => (if t122 = a0 then (if (wrap64 ((Go.bits .and .i64 a1 15) + (wrap64 ((Go.bits .and .i64 a2 15) + 1)))) > 32 then ((word_Pack.f kj14 ([] : List (S37))).bind fun t123 => (some (t123 == 0))) else ((word_Left.f a0 (wrap64 ((wrap64 (32 - (Go.bits .and .i64 a1 15))) - (wrap64 ((Go.bits .and .i64 a2 15) + 1))))).bind fun t124 => ((word_Right.f t124 (wrap64 (32 - (wrap64 ((Go.bits .and .i64 a2 15) + 1)))) false).bind fun t125 => (if t119 = t125 then ((word_Pack.f kj14 ([] : List (S37))).bind fun t126 => (some (t126 == 0))) else (some false))))) else (some false))) = some r := by first | (rw [if_pos rfl] at H; exact H) | (rw [if_pos trivial] at H; exact H)
                replace H := Option.bind_eq_some_iff.mp H
                obtain ⟨t122, A230, H⟩ := H
                replace H : (if t122 = a0 then (if (wrap64 ((Go.bits .and .i64 a1 15) + (wrap64 ((Go.bits .and .i64 a2 15) + 1)))) > 32 then ((word_Pack.f kj14 ([] : List (S37))).bind fun t123 => (some (t123 == 0))) else ((word_Left.f a0 (wrap64 ((wrap64 (32 - (Go.bits .and .i64 a1 15))) - (wrap64 ((Go.bits .and .i64 a2 15) + 1))))).bind fun t124 => ((word_Right.f t124 (wrap64 (32 - (wrap64 ((Go.bits .and .i64 a2 15) + 1)))) false).bind fun t125 => (if t119 = t125 then ((word_Pack.f kj14 ([] : List (S37))).bind fun t126 => (some (t126 == 0))) else (some false))))) else (some false)) = some r := H
                have A23 := Aside0.mk A230
                clear A230
                by_cases c24 : t122 = a0
                · rw [if_pos c24] at H
                  have c24b0 : (t122 == a0) = true := beq_iff_eq.mpr c24
                  have c24b1 : (t122 != a0) = false := bne_eq_false_iff_eq.mpr c24
                  clear c24
                  by_cases c25 : (wrap64 ((Go.bits .and .i64 a1 15) + (wrap64 ((Go.bits .and .i64 a2 15) + 1)))) > 32
                  · rw [if_pos c25] at H
                    have c25b0 : decide (32 < (wrap64 ((Go.bits .and .i64 a1 15) + (wrap64 ((Go.bits .and .i64 a2 15) + 1))))) = true := decide_eq_true c25
                    clear c25
                    replace H := Option.bind_eq_some_iff.mp H
                    obtain ⟨t123, A260, H⟩ := H
                    replace H : (some (t123 == 0)) = some r := H
                    have A26 := Aside0.mk A260
                    clear A260
                    clear HRT
                    obtain rfl := Option.some.inj H
                    obtain ⟨Ao27, co27, eo27⟩ := Kd.R_slice HO_12.out
                    subst eo27
                    go_wp2_with (first | (go_at_call 21; (with_reducible refine (word_Pack.calls kj14 _ _ x12_1 t122 _ ?side1 ?side2 A23.out).mono ?_); (case side1 => repeat (first | exact (Kd.R_reads' HO_12.out).2.2 | (with_reducible refine Kd.C_alloc ?_ _) | (with_reducible refine Kd.C_drewN ?_ _) | (with_reducible refine Kd.C_drew ?_))); (case side2 => exact (Kd.R_reads' HO_12.out).2.1); rintro e w28 ⟨rfl, hb⟩; have n0_ := Aside0.mk (Kd.R_below (by (with_reducible repeat (first | apply Kd.R_alloc | apply Kd.R_drewN | apply Kd.R_drew)); exact HO_12.out) hb); have n1_ := Aside0.mk (below_step (by repeat (first | (with_reducible first | exact HB.out | apply below_alloc | apply pw_below_drewN | apply below_drew1) | exact HB.out)) hb); clear HO_12; clear HB; have HO_12 := n0_; have HB := n1_; clear n0_ n1_; (try clear hb); (try clear hb2); (try clear hk); (try clear hi)) | (go_at_call 21; (refine (word_Pack.calls kj14 _ _ ([] : List (S37)) t123 _ ?side1 ?side2 A26.out).mono ?_); (case side1 => exact Kd.C_nil _ _); (case side2 => exact Nat.le_refl _); rintro e w29 ⟨rfl, hb⟩; have n0_ := Aside0.mk (Kd.R_below (by (with_reducible repeat (first | apply Kd.R_alloc | apply Kd.R_drewN | apply Kd.R_drew)); exact HO_12.out) hb); have n1_ := Aside0.mk (below_step (by repeat (first | (with_reducible first | exact HB.out | apply below_alloc | apply pw_below_drewN | apply below_drew1) | exact HB.out)) hb); clear HO_12; clear HB; have HO_12 := n0_; have HB := n1_; clear n0_ n1_; (try clear hb); (try clear hb2); (try clear hk); (try clear hi)))
                    go_ret
                    exact ⟨by first | rfl | (simp [errW_none, errW_some] <;> rfl) | (simp [*, errW_none, errW_some] <;> rfl), by repeat (first | (with_reducible first | exact HB.out | apply below_alloc | apply pw_below_drewN | apply below_drew1) | exact HB.out)⟩
                  · rw [if_neg c25] at H
                    have c25b0 : decide (32 < (wrap64 ((Go.bits .and .i64 a1 15) + (wrap64 ((Go.bits .and .i64 a2 15) + 1))))) = false := decide_eq_false c25
                    clear c25
                    replace H := Option.bind_eq_some_iff.mp H
                    obtain ⟨t124, A300, H⟩ := H
                    replace H : ((word_Right.f t124 (wrap64 (32 - (wrap64 ((Go.bits .and .i64 a2 15) + 1)))) false).bind fun t125 => (if t119 = t125 then ((word_Pack.f kj14 ([] : List (S37))).bind fun t126 => (some (t126 == 0))) else (some false))) = some r := H
                    have A30 := Aside0.mk A300
                    clear A300
                    replace H := Option.bind_eq_some_iff.mp H
                    obtain ⟨t125, A310, H⟩ := H
                    replace H : (if t119 = t125 then ((word_Pack.f kj14 ([] : List (S37))).bind fun t126 => (some (t126 == 0))) else (some false)) = some r := H
                    have A31 := Aside0.mk A310
                    clear A310
                    by_cases c32 : t119 = t125
                    · rw [if_pos c32] at H
                      have c32b0 : (t119 == t125) = true := beq_iff_eq.mpr c32
                      have c32b1 : (t119 != t125) = false := bne_eq_false_iff_eq.mpr c32
                      clear c32
                      replace H := Option.bind_eq_some_iff.mp H
                      obtain ⟨t126, A330, H⟩ := H
                      replace H : (some (t126 == 0)) = some r := H
                      have A33 := Aside0.mk A330
                      clear A330
                      clear HRT
                      obtain rfl := Option.some.inj H
                      obtain ⟨Ao34, co34, eo34⟩ := Kd.R_slice HO_12.out
                      subst eo34
                      go_wp2_with (first | (go_at_call 21; (with_reducible refine (word_Pack.calls kj14 _ _ x12_1 t122 _ ?side1 ?side2 A23.out).mono ?_); (case side1 => repeat (first | exact (Kd.R_reads' HO_12.out).2.2 | (with_reducible refine Kd.C_alloc ?_ _) | (with_reducible refine Kd.C_drewN ?_ _) | (with_reducible refine Kd.C_drew ?_))); (case side2 => exact (Kd.R_reads' HO_12.out).2.1); rintro e w35 ⟨rfl, hb⟩; have n0_ := Aside0.mk (Kd.R_below (by (with_reducible repeat (first | apply Kd.R_alloc | apply Kd.R_drewN | apply Kd.R_drew)); exact HO_12.out) hb); have n1_ := Aside0.mk (below_step (by repeat (first | (with_reducible first | exact HB.out | apply below_alloc | apply pw_below_drewN | apply below_drew1) | exact HB.out)) hb); clear HO_12; clear HB; have HO_12 := n0_; have HB := n1_; clear n0_ n1_; (try clear hb); (try clear hb2); (try clear hk); (try clear hi)) | (go_at_call 24; (with_reducible refine (word_Left.calls a0 (wrap64 ((wrap64 (32 - (Go.bits .and .i64 a1 15))) - (wrap64 ((Go.bits .and .i64 a2 15) + 1)))) t124 _ A30.out).mono ?_); rintro e w' ⟨rfl, ⟨nd, rfl⟩⟩) | (go_at_call 25; (with_reducible refine (word_Right.calls t124 (wrap64 (32 - (wrap64 ((Go.bits .and .i64 a2 15) + 1)))) false t125 _ A31.out).mono ?_); rintro e w' ⟨rfl, ⟨nd, rfl⟩⟩) | (go_at_call 21; (refine (word_Pack.calls kj14 _ _ ([] : List (S37)) t126 _ ?side1 ?side2 A33.out).mono ?_); (case side1 => exact Kd.C_nil _ _); (case side2 => exact Nat.le_refl _); rintro e w36 ⟨rfl, hb⟩; have n0_ := Aside0.mk (Kd.R_below (by (with_reducible repeat (first | apply Kd.R_alloc | apply Kd.R_drewN | apply Kd.R_drew)); exact HO_12.out) hb); have n1_ := Aside0.mk (below_step (by repeat (first | (with_reducible first | exact HB.out | apply below_alloc | apply pw_below_drewN | apply below_drew1) | exact HB.out)) hb); clear HO_12; clear HB; have HO_12 := n0_; have HB := n1_; clear n0_ n1_; (try clear hb); (try clear hb2); (try clear hk); (try clear hi)))
                      go_ret
                      exact ⟨by first | rfl | (simp [errW_none, errW_some] <;> rfl) | (simp [*, errW_none, errW_some] <;> rfl), by repeat (first | (with_reducible first | exact HB.out | apply below_alloc | apply pw_below_drewN | apply below_drew1) | exact HB.out)⟩
                    · rw [if_neg c32] at H
                      have c32b0 : (t119 == t125) = false := beq_eq_false_iff_ne.mpr c32
                      have c32b1 : (t119 != t125) = true := bne_iff_ne.mpr c32
                      exact absurd (Option.some.inj H) (by rw [HRT.out]; decide)
                · rw [if_neg c24] at H
                  have c24b0 : (t122 == a0) = false := beq_eq_false_iff_ne.mpr c24
                  have c24b1 : (t122 != a0) = true := bne_iff_ne.mpr c24
                  exact absurd (Option.some.inj H) (by rw [HRT.out]; decide)
  · replace c7 := Bool.eq_false_iff.mpr c7
    subst c7
    have H1 : (some false) = some r := by rw [if_neg (show ¬ (false = true) by decide)] at H; exact H
    clear H
    have H := H1
    clear H1
    exact absurd (Option.some.inj H) (by rw [HRT.out]; decide)

/-- THE ONE PURE STATEMENT of corrallaw1_WordBits: yours. -/
def corrallaw1_WordBits.Pure : Prop := ∀ (a0 : Int) (a1 : Int) (a2 : Int) (a3 : Int) (a4 : Int), (Lit.int .u32 a0).wf = true → (Lit.int .i64 a1).wf = true → (Lit.int .i64 a2).wf = true → (Lit.int .i64 a3).wf = true → (Lit.int .i64 a4).wf = true → ∃ k, corrallaw1_WordBits.f k a0 a1 a2 a3 a4 = some true
theorem corrallaw1_WordBits.walk (P : corrallaw1_WordBits.Pure) (a0 : Int) (a1 : Int) (a2 : Int) (a3 : Int) (a4 : Int) (w : World) (w0 : (Lit.int .u32 a0).wf = true) (w1 : (Lit.int .i64 a1).wf = true) (w2 : (Lit.int .i64 a2).wf = true) (w3 : (Lit.int .i64 a3).wf = true) (w4 : (Lit.int .i64 a4).wf = true) :
    Calls Try.prog 7 #[.int .u32 a0, .int .i64 a1, .int .i64 a2, .int .i64 a3, .int .i64 a4] w fun e w' => e = .returned (.bool true) ∧ Below w.heap.size w w' := by
  obtain ⟨k, h⟩ := P a0 a1 a2 a3 a4 w0 w1 w2 w3 w4
  refine (corrallaw1_WordBits.calls k a0 a1 a2 a3 a4 true w h rfl).mono ?_
  rintro e w' ⟨rfl, hd⟩
  exact ⟨rfl, hd⟩

end Go.Proofs.Ythpaieglgjjbiaa.QWordBits
