-- Laid by a program of this session (wip/tpl/mine.sh), out of the program's form in Lean: Lean checks it.
import Derived.Test.YtecmjcfhbedelaaQWalkEndsx0
import Derived.Test.YtecmjcfhbedelaaQWalkEndsx1
import Derived.Test.YtecmjcfhbedelaaQWalkEndsx2
import Derived.Test.YtecmjcfhbedelaaQWalkEndsx3
namespace Go.Proofs.Ytecmjcfhbedelaa.QWalkEnds
open Go.RowKit Go.Proofs.YtecmjcfhbedelaaW.PrintWords Go.Proofs.YtecmjcfhbedelaaW.PrintLast Go.Proofs.YtecmjcfhbedelaaW.PrintMore
attribute [local go_sem] max2_int min2_int max_two min_two max_three min_three max_four min_four   -- for this text's walks alone
set_option linter.unusedVariables false
set_option linter.unusedSimpArgs false

/-! ### corrallaw9_WalkEnds: function 4 -/
mutual
def corrallaw9_WalkEnds.j0 : Nat → List Int → Int → Int → Int → Int → Bool → Bool → Option (Bool)
  | 0, _, _, _, _, _, _, _ => none
  | k + 1, x0, x1, x2, x3, x4, x11, x26 => if x26 = true then (some x11) else ((corralref_Words.f k x0).bind fun t217 => (corrallaw9_WalkEnds.l0 k x1 x2 x3 x4 t217 ([] : List (S52)) 0 0))
def corrallaw9_WalkEnds.l0 : Nat → Int → Int → Int → Int → List Int → List (S52) → Int → Int → Option (Bool)
  | 0, _, _, _, _, _, _, _, _ => none
  | k + 1, x1, x2, x3, x4, x12, x13, x14, x15 => if x15 < 6 then ((walk_Next.f k x1 x2 x3 x4 (wrap64 (4 * (x12.length : Int))) x13).bind fun bt220 => (if bt220.1 = 3 then (if (Int.tmod bt220.2.2.1 4) = 0 then (if ((Int.tdiv bt220.2.2.1 4) % 4294967296) ≥ (x12.length : Int) then (some false) else ((walk_Entries.f x1 x2).bind fun t226 => (if (x13.length : Int) ≥ t226 then (some false) else (if 0 ≤ ((Int.tdiv bt220.2.2.1 4) % 4294967296) then (if ((Int.tdiv bt220.2.2.1 4) % 4294967296) < (x12.length : Int) then (if x13.length < 4398046511104 then (corrallaw9_WalkEnds.l0 k x1 x2 x3 x4 x12 (x13 ++ [(⟨bt220.2.2.1, rd x12 ((Int.tdiv bt220.2.2.1 4) % 4294967296), 0, 0, false⟩ : S52)]) x14 (wrap64 (x15 + 1))) else (none)) else (none)) else (none))))) else (some false)) else (if bt220.1 = 4 then (if (wrap64 (x14 + 1)) > 1 then (some false) else (if (x13.length : Int) = 0 then (some false) else (if 0 ≤ (wrap64 ((x13.length : Int) - 1)) then (if (wrap64 ((x13.length : Int) - 1)) < (x13.length : Int) then (if ((rd_T52 x13 (wrap64 ((x13.length : Int) - 1))).f0) = bt220.2.2.1 then ((pte_Needs.f ((rd_T52 x13 (wrap64 ((x13.length : Int) - 1))).f1) x4).bind fun t233 => (if bt220.2.2.2.1 = t233 then (if bt220.2.2.2.1 = ((rd_T52 x13 (wrap64 ((x13.length : Int) - 1))).f1) then (some false) else (corrallaw9_WalkEnds.l0 k x1 x2 x3 x4 x12 (x13.set ((wrap64 ((x13.length : Int) - 1)) : Int).toNat (⟨(rd_T52 x13 (wrap64 ((x13.length : Int) - 1))).f0, bt220.2.2.2.1, (rd_T52 x13 (wrap64 ((x13.length : Int) - 1))).f2, (rd_T52 x13 (wrap64 ((x13.length : Int) - 1))).f3, (rd_T52 x13 (wrap64 ((x13.length : Int) - 1))).f4⟩ : S52)) (wrap64 (x14 + 1)) (wrap64 (x15 + 1)))) else (some false))) else (some false)) else (none)) else (none)))) else (if bt220.1 = 1 then (if (Int.tmod bt220.2.1 4096) = (Int.tmod x3 4096) then (if (x13.length : Int) = 0 then (if bt220.2.1 = x3 then (some true) else (if (x13.length : Int) > 0 then (if 0 ≤ (wrap64 ((x13.length : Int) - 1)) then (if (wrap64 ((x13.length : Int) - 1)) < (x13.length : Int) then ((pte_May.f ((rd_T52 x13 (wrap64 ((x13.length : Int) - 1))).f1) x4 x2).bind fun t237 => (some t237)) else (none)) else (none)) else (some false))) else (if (x13.length : Int) > 0 then (if 0 ≤ (wrap64 ((x13.length : Int) - 1)) then (if (wrap64 ((x13.length : Int) - 1)) < (x13.length : Int) then ((pte_May.f ((rd_T52 x13 (wrap64 ((x13.length : Int) - 1))).f1) x4 x2).bind fun t239 => (some t239)) else (none)) else (none)) else (some false))) else (some false)) else (if bt220.1 = 2 then ((pte_Cause.f x4 true).bind fun t240 => (if bt220.2.2.2.2 = t240 then (some (bt220.2.1 == 0)) else ((pte_Cause.f x4 false).bind fun t241 => (if bt220.2.2.2.2 = t241 then (some (bt220.2.1 == 0)) else (some false))))) else (some false)))))) else (some false)
end
def corrallaw9_WalkEnds.f (k : Nat) (l0 : List Int) (a1 : Int) (a2 : Int) (a3 : Int) (a4 : Int) : Option (Bool) := (corrallaw9_first.f k).bind fun t216 => (if t216 = true then (if (l0.length : Int) > 64 then (corrallaw9_WalkEnds.j0 k l0 a1 a2 a3 a4 t216 true) else (corrallaw9_WalkEnds.j0 k l0 a1 a2 a3 a4 t216 (!t216))) else (some false))
theorem corrallaw9_WalkEnds.mono_l : ∀ k, (∀ y0 y1 y2 y3 y4 y5 y6, LeO (corrallaw9_WalkEnds.j0 k y0 y1 y2 y3 y4 y5 y6) (corrallaw9_WalkEnds.j0 (k + 1) y0 y1 y2 y3 y4 y5 y6)) ∧ (∀ y0 y1 y2 y3 y4 y5 y6 y7, LeO (corrallaw9_WalkEnds.l0 k y0 y1 y2 y3 y4 y5 y6 y7) (corrallaw9_WalkEnds.l0 (k + 1) y0 y1 y2 y3 y4 y5 y6 y7))
  | 0 => ⟨fun _ _ _ _ _ _ _ r h => by simp [corrallaw9_WalkEnds.j0] at h, fun _ _ _ _ _ _ _ _ r h => by simp [corrallaw9_WalkEnds.l0] at h⟩
  | k + 1 => by
    obtain ⟨ih0, ih1⟩ := corrallaw9_WalkEnds.mono_l k
    refine ⟨?_, ?_⟩
    · intro y0 y1 y2 y3 y4 y5 y6
      unfold corrallaw9_WalkEnds.j0
      repeat' first
      | (with_reducible exact ih0 _ _ _ _ _ _ _)
      | (with_reducible exact ih1 _ _ _ _ _ _ _ _)
      | (with_reducible exact corrallaw9_first.mono _)
      | (with_reducible exact corralref_Words.mono _ _)
      | (with_reducible exact walk_Next.mono _ _ _ _ _ _ _)
      | (with_reducible exact LeO.refl _)
      | (with_reducible exact LeO.none _)
      | (with_reducible refine LeO.ite ?_ ?_)
      | (with_reducible refine LeO.bind ?_ (fun _ => ?_))
      | exact ih0 _ _ _ _ _ _ _
      | exact ih1 _ _ _ _ _ _ _ _
      | exact corrallaw9_first.mono _
      | exact corralref_Words.mono _ _
      | exact walk_Next.mono _ _ _ _ _ _ _
      | exact LeO.none _
      | refine LeO.ite ?_ ?_
      | refine LeO.bind ?_ (fun _ => ?_)
    · intro y0 y1 y2 y3 y4 y5 y6 y7
      unfold corrallaw9_WalkEnds.l0
      repeat' first
      | (with_reducible exact ih0 _ _ _ _ _ _ _)
      | (with_reducible exact ih1 _ _ _ _ _ _ _ _)
      | (with_reducible exact corrallaw9_first.mono _)
      | (with_reducible exact corralref_Words.mono _ _)
      | (with_reducible exact walk_Next.mono _ _ _ _ _ _ _)
      | (with_reducible exact LeO.refl _)
      | (with_reducible exact LeO.none _)
      | (with_reducible refine LeO.ite ?_ ?_)
      | (with_reducible refine LeO.bind ?_ (fun _ => ?_))
      | exact ih0 _ _ _ _ _ _ _
      | exact ih1 _ _ _ _ _ _ _ _
      | exact corrallaw9_first.mono _
      | exact corralref_Words.mono _ _
      | exact walk_Next.mono _ _ _ _ _ _ _
      | exact LeO.none _
      | refine LeO.ite ?_ ?_
      | refine LeO.bind ?_ (fun _ => ?_)
theorem corrallaw9_WalkEnds.mono : ∀ a0 a1 a2 a3 a4 k, LeO (corrallaw9_WalkEnds.f k a0 a1 a2 a3 a4) (corrallaw9_WalkEnds.f (k + 1) a0 a1 a2 a3 a4) := by
  intro a0 a1 a2 a3 a4 k
  obtain ⟨ih0, ih1⟩ := corrallaw9_WalkEnds.mono_l k
  unfold corrallaw9_WalkEnds.f
  repeat' first
      | (with_reducible exact ih0 _ _ _ _ _ _ _)
      | (with_reducible exact ih1 _ _ _ _ _ _ _ _)
      | (with_reducible exact corrallaw9_first.mono _)
      | (with_reducible exact corralref_Words.mono _ _)
      | (with_reducible exact walk_Next.mono _ _ _ _ _ _ _)
      | (with_reducible exact LeO.refl _)
      | (with_reducible exact LeO.none _)
      | (with_reducible refine LeO.ite ?_ ?_)
      | (with_reducible refine LeO.bind ?_ (fun _ => ?_))
      | exact ih0 _ _ _ _ _ _ _
      | exact ih1 _ _ _ _ _ _ _ _
      | exact corrallaw9_first.mono _
      | exact corralref_Words.mono _ _
      | exact walk_Next.mono _ _ _ _ _ _ _
      | exact LeO.none _
      | refine LeO.ite ?_ ?_
      | refine LeO.bind ?_ (fun _ => ?_)
def corrallaw9_WalkEnds.T14 : Bool × List (List Nat × List Nat) := (true, [([], []), ([0], [0]), ([1], [1]), ([2], [2]), ([3], [3]), ([4, 3], [3, 4]), ([3], [3]), ([6, 3, 3], [3, 6]), ([5, 7, 3], [3, 5, 7]), ([8, 7, 3], [3, 8]), ([9], [9]), ([10, 9], [9, 10]), ([9], [9]), ([12, 9, 9], [9, 12]), ([11, 13, 9], [9, 11, 13]), ([9, 14, 3], [3, 9, 14]), ([3, 15], [3, 15]), ([16, 13], [16]), ([17], [17]), ([18, 17], [17, 18]), ([19, 17], [17, 19]), ([17, 20], [17, 20]), ([21, 17, 0, 1, 2, 3, 4, 5, 6, 7, 8, 9, 10, 11, 12, 13, 14, 15, 16, 17, 18, 19, 20, 21], [21])])
def corrallaw9_WalkEnds.B14 : List Nat := [0, 1, 3, 7, 15, 31, 15, 79, 255, 511, 1023, 2047, 1023, 5119, 16383, 32767, 65535, 131071, 262143, 524287, 1048575, 2097151, 4194303]
theorem corrallaw9_WalkEnds.tab14 : rtab .any (opsOf Try.f4 14) = corrallaw9_WalkEnds.T14 := by kernel_rfl
theorem corrallaw9_WalkEnds.bits14 : waitsOk corrallaw9_WalkEnds.T14.2 corrallaw9_WalkEnds.B14 = true := by kernel_rfl
def corrallaw9_WalkEnds.T18 : Bool × List (List Nat × List Nat) := (true, [([], []), ([], []), ([1], [1]), ([], []), ([], []), ([4], [4]), ([5], [5]), ([3, 6], [3, 6]), ([7], [7]), ([2, 8], [2, 8]), ([9], [9]), ([0, 10], [0, 10]), ([11, 11, 0, 1, 2, 3, 4, 5, 6, 7, 8, 9, 10, 11], [0, 11])])
def corrallaw9_WalkEnds.B18 : List Nat := [0, 0, 2, 0, 0, 16, 48, 120, 248, 510, 1022, 2047, 4095]
theorem corrallaw9_WalkEnds.tab18 : rtab .any (opsOf Try.f4 18) = corrallaw9_WalkEnds.T18 := by kernel_rfl
theorem corrallaw9_WalkEnds.bits18 : waitsOk corrallaw9_WalkEnds.T18.2 corrallaw9_WalkEnds.B18 = true := by kernel_rfl
def corrallaw9_WalkEnds.T21 : Bool × List (List Nat × List Nat) := (true, [([], []), ([0], [0]), ([1], [1]), ([2], [2]), ([3, 2], [2, 3]), ([4, 2], [2, 4]), ([2, 5], [2, 5]), ([6, 2], [6]), ([7], [7]), ([7], [7]), ([9, 7], [7, 9]), ([10, 7], [7, 10]), ([8, 11, 7], [7, 8, 11]), ([12, 7], [7, 12]), ([13, 7], [7, 13]), ([7], [7]), ([15, 7], [7, 15]), ([14, 16, 7], [7, 14, 16]), ([7, 17], [7, 17]), ([18, 7], [18]), ([19], [19]), ([20, 19], [19, 20]), ([19], [19]), ([19], [19]), ([23, 19], [19, 23]), ([24, 19], [19, 24]), ([22, 25, 19], [19, 22, 25]), ([26, 19], [19, 26]), ([27, 19], [19, 27]), ([19], [19]), ([28, 29, 19, 19], [19, 28, 29]), ([21, 30, 19], [19, 21, 30]), ([19, 31], [19, 31]), ([32, 30], [32]), ([33], [33]), ([34, 33], [33, 34]), ([33], [33]), ([33], [33]), ([37, 33], [33, 37]), ([38, 33], [33, 38]), ([36, 39, 33], [33, 36, 39]), ([40, 33], [33, 40]), ([41, 33], [33, 41]), ([35, 42, 33], [33, 35, 42]), ([33, 43], [33, 43])])
def corrallaw9_WalkEnds.B21 : List Nat := [0, 1, 3, 7, 15, 31, 63, 127, 255, 255, 767, 1791, 4095, 8191, 16383, 255, 33023, 131071, 262143, 524287, 1048575, 2097151, 1048575, 1048575, 9437183, 26214399, 63963135, 131071999, 265289727, 1048575, 1070596095, 2147483647, 4294967295, 8589934591, 17179869183, 34359738367, 17179869183, 17179869183, 154618822655, 429496729599, 1047972020223, 2147483647999, 4346506903551, 8796093022207, 17592186044415]
theorem corrallaw9_WalkEnds.tab21 : rtab .any (opsOf Try.f4 21) = corrallaw9_WalkEnds.T21 := by kernel_rfl
theorem corrallaw9_WalkEnds.bits21 : waitsOk corrallaw9_WalkEnds.T21.2 corrallaw9_WalkEnds.B21 = true := by kernel_rfl
set_option maxHeartbeats 8000000 in
set_option maxRecDepth 100000 in
theorem corrallaw9_WalkEnds.calls (k : Nat) (A0 : Option Addr) (c0 : Nat) (l0 : List Int) (a1 : Int) (a2 : Int) (a3 : Int) (a4 : Int) (r : Bool) (w : World) (hr0 : Kd.C (Kd.int .u32) w A0 l0.length l0) (hc0 : l0.length ≤ c0) (h : corrallaw9_WalkEnds.f k l0 a1 a2 a3 a4 = some r) (hrtrue : r = true) :
    Calls Try.prog 4 #[.slice A0 l0.length c0, .int .u32 a1, .int .i64 a2, .int .u32 a3, .int .i64 a4] w fun e w' => e = .returned (.bool r) ∧ Below w.heap.size w w' := by
  have hu48 := Try.underlying48
  have hu52 := Try.underlying52
  have HR0 := Aside0.mk hr0
  have HC0 := Aside0.mk hc0
  clear hr0 hc0
  have HB := Aside0.mk (Below.refl w.heap.size w)
  have H : ((corrallaw9_first.f k).bind fun t216 => (if t216 = true then (if (l0.length : Int) > 64 then (corrallaw9_WalkEnds.j0 k l0 a1 a2 a3 a4 t216 true) else (corrallaw9_WalkEnds.j0 k l0 a1 a2 a3 a4 t216 (!t216))) else (some false))) = some r := h
  clear h
  have HRT := Aside0.mk hrtrue
  clear hrtrue
  replace H := Option.bind_eq_some_iff.mp H
  obtain ⟨t216, A60, H⟩ := H
  replace H : (if t216 = true then (if (l0.length : Int) > 64 then (corrallaw9_WalkEnds.j0 k l0 a1 a2 a3 a4 t216 true) else (corrallaw9_WalkEnds.j0 k l0 a1 a2 a3 a4 t216 (!t216))) else (some false)) = some r := H
  have A6 := Aside0.mk A60
  clear A60
  by_cases c7 : t216 = true
  · subst c7
    have H1 : (if (l0.length : Int) > 64 then (corrallaw9_WalkEnds.j0 k l0 a1 a2 a3 a4 true true) else (corrallaw9_WalkEnds.j0 k l0 a1 a2 a3 a4 true (!true))) = some r := by rw [if_pos rfl] at H; exact H
    clear H
    have H := H1
    clear H1
    have HC8 := Aside0.mk H
    clear H
    go_enter Try.func4, Try.ntmps4
    go_upto_region 4 with (first | ((with_reducible refine gate_callee (f := 19) rfl ?_); refine goesL_ (some 17) rfl rfl Try.func19 (by kernel_rfl) rfl #[] rfl (by (try simp only [List.map_toArray, List.map_cons, List.map_nil]); first | done | rfl | (simp only [List.length_drop, List.length_take]; rfl)) ?_; (with_reducible refine (corrallaw9_first.calls k  true _ A6.out).mono ?_); rintro e w9 ⟨rfl, hb⟩; refine ⟨_, rfl, ?_⟩; have n0_ := Aside0.mk (below_step (by repeat (first | (with_reducible first | exact HB.out | apply below_alloc | apply pw_below_drewN | apply below_drew1) | exact HB.out)) hb); clear HB; have HB := n0_; clear n0_; (try clear hb); (try clear hb2); (try clear hk); (try clear hi)))
    (try simp only [Act.put, List.setIfInBounds_toArray, List.set_cons_zero, List.set_cons_succ])
    go_cut [26] (fun v26 wc => ∃ (kq : Nat) (x26_7 : Bool), v26 = .bool x26_7 ∧ Aside0 (corrallaw9_WalkEnds.j0 kq l0 a1 a2 a3 a4 true x26_7 = some r) ∧ Aside0 (kq ≤ k) ∧ Aside0 (Below w.heap.size w wc))
    case first =>
      have H := HC8.out
      clear HC8
      by_cases c10 : (l0.length : Int) > 64
      · rw [if_pos c10] at H
        have c10b0 : decide (64 < (l0.length : Int)) = true := decide_eq_true c10
        have c10b1 : decide (64 < l0.length) = true := decide_eq_true (by omega)
        clear c10
        (first | rw [c10b0] | (simp only [i64_w, i32_w]; rw [c10b0]) | skip)
        have H' := Aside0.mk H
        clear H
        go_wp2
        go_meet
        case rel => exact ⟨_, (true), (by first | rfl | (simp; done) | (simp [*]; done)), H', ⟨by first | omega | exact Nat.le_refl _⟩, ⟨by repeat (first | (with_reducible first | exact HB.out | apply below_alloc | apply pw_below_drewN | apply below_drew1) | exact HB.out)⟩⟩
      · rw [if_neg c10] at H
        have c10b0 : decide (64 < (l0.length : Int)) = false := decide_eq_false c10
        have c10b1 : decide (64 < l0.length) = false := decide_eq_false (by omega)
        clear c10
        (first | rw [c10b0] | (simp only [i64_w, i32_w]; rw [c10b0]) | skip)
        have H' := Aside0.mk H
        clear H
        go_wp2
        go_meet
        case rel => exact ⟨_, (!true), (by first | rfl | (simp; done) | (simp [*]; done)), H', ⟨by first | omega | exact Nat.le_refl _⟩, ⟨by repeat (first | (with_reducible first | exact HB.out | apply below_alloc | apply pw_below_drewN | apply below_drew1) | exact HB.out)⟩⟩
    case rest =>
      clear HC8
      try clear c1
      try clear p2
      try clear c4
      try clear c7
      try clear c10
      try clear c10b0
      try clear c10b1
      obtain ⟨kq, x26_7, rfl, HA, HJ7, HB⟩ := hcut
      cases kq with
      | zero => exact absurd HA.out (by simp [corrallaw9_WalkEnds.j0])
      | succ kj7 =>
        have H := HA.out
        clear HA
        simp only [corrallaw9_WalkEnds.j0] at H
        by_cases c11 : x26_7 = true
        · subst c11
          have H1 : (some true) = some r := by rw [if_pos rfl] at H; exact H
          clear H
          have H := H1
          clear H1
          clear HRT
          obtain rfl := Option.some.inj H
          go_wp2
          go_ret
          exact ⟨by first | rfl | (simp [errW_none, errW_some] <;> rfl) | (simp [*, errW_none, errW_some] <;> rfl), by repeat (first | (with_reducible first | exact HB.out | apply below_alloc | apply pw_below_drewN | apply below_drew1) | exact HB.out)⟩
        · replace c11 := Bool.eq_false_iff.mpr c11
          subst c11
          have H1 : ((corralref_Words.f kj7 l0).bind fun t217 => (corrallaw9_WalkEnds.l0 kj7 a1 a2 a3 a4 t217 ([] : List (S52)) 0 0)) = some r := by rw [if_neg (show ¬ (false = true) by decide)] at H; exact H
          clear H
          have H := H1
          clear H1
          replace H := Option.bind_eq_some_iff.mp H
          obtain ⟨t217, A120, H⟩ := H
          replace H : (corrallaw9_WalkEnds.l0 kj7 a1 a2 a3 a4 t217 ([] : List (S52)) 0 0) = some r := H
          have A12 := Aside0.mk A120
          clear A120
          have H' := Aside0.mk H
          clear H
          go_wp2_with (first | ((with_reducible refine gate_callee (f := 20) rfl ?_); refine goesL_ (some 29) rfl rfl Try.func20 (by kernel_rfl) rfl #[.slice A0 l0.length c0] rfl (by (try simp only [List.map_toArray, List.map_cons, List.map_nil]); first | done | rfl | (simp only [List.length_drop, List.length_take]; rfl)) ?_; (with_reducible refine (corralref_Words.calls kj7 _ _ l0 t217 _ ?side1 ?side2 A12.out).mono ?_); (case side1 => repeat (first | exact (Kd.C_below HR0.out HB.out) | (with_reducible refine Kd.C_alloc ?_ _) | (with_reducible refine Kd.C_drewN ?_ _) | (with_reducible refine Kd.C_drew ?_))); (case side2 => exact HC0.out); rintro e w13 ⟨v218, rfl, ho0, hb⟩; refine ⟨_, rfl, ?_⟩; have n0_ := Aside0.mk (Kd.R_lower ho0 (below_size (by repeat (first | (with_reducible first | exact HB.out | apply below_alloc | apply pw_below_drewN | apply below_drew1) | exact HB.out)))); have n1_ := Aside0.mk (below_step (by repeat (first | (with_reducible first | exact HB.out | apply below_alloc | apply pw_below_drewN | apply below_drew1) | exact HB.out)) hb); clear HB; have HO219 := n0_; have HB := n1_; clear n0_ n1_; (try clear hb); (try clear hb2); (try clear hk); (try clear hi); (try clear ho0)))
          go_loopg [13, 14, 15] kj7 (fun kq v13 v14 v15 w' => ∃ (x13_2 : List (S52)) (x14_2 : Int) (x15_2 : Int), v14 = .int .i64 x14_2 ∧ v15 = .int .i64 x15_2 ∧ Aside0 (corrallaw9_WalkEnds.l0 kq a1 a2 a3 a4 t217 x13_2 x14_2 x15_2 = some r) ∧ Aside0 (kq ≤ kj7) ∧ Aside0 (Kd.R (Kd.int .u32) 23 w' w.heap.size (fun _ => True) v218 t217) ∧ Aside0 (Kd.R k52 52 w' w.heap.size (fun _ => True) v13 x13_2) ∧ Aside0 (Below w.heap.size w w'))
          case atStart => exact ⟨(([] : List (S52))), (0), (0), (by first | rfl | (simp; done) | (simp [*]; done)), (by first | rfl | (simp; done) | (simp [*]; done)), H', ⟨Nat.le_refl _⟩, ⟨by (with_reducible repeat (first | apply Kd.R_alloc | apply Kd.R_drewN | apply Kd.R_drew)); exact HO219.out⟩, ⟨by first | exact Kd.R_nil _ _ _ _ _ | exact Kd.N_nil _ _ _ _ _ | exact Kd.V_nil _ _ _ _ _ | exact Kd.Q_nil _ _ _ _ _ | exact Kd.S_nil _ _ _ _ _⟩, ⟨by repeat (first | (with_reducible first | exact HB.out | apply below_alloc | apply pw_below_drewN | apply below_drew1) | exact HB.out)⟩⟩
          case round =>
            clear H'
            try clear c1
            try clear c2
            try clear p2
            try clear c4
            try clear c7
            try clear c10
            try clear c10b0
            try clear c10b1
            try clear c11
            try clear p2
            obtain ⟨x13_2, x14_2, x15_2, rfl, rfl, HA, HK2, HO_12, HO_13, HB⟩ := hrel
            cases gk with
            | zero => exact absurd HA.out (by simp [corrallaw9_WalkEnds.l0])
            | succ k2 =>
              have H := HA.out
              clear HA
              simp only [corrallaw9_WalkEnds.l0] at H
              by_cases c14 : x15_2 < 6
              · rw [if_pos c14] at H
                have c14b0 : decide (x15_2 < 6) = true := decide_eq_true c14
                clear c14
                replace H := Option.bind_eq_some_iff.mp H
                obtain ⟨⟨t220, t221, t222, t223, t224⟩, A150, H⟩ := H
                replace H : (if t220 = 3 then (if (Int.tmod t222 4) = 0 then (if ((Int.tdiv t222 4) % 4294967296) ≥ (t217.length : Int) then (some false) else ((walk_Entries.f a1 a2).bind fun t226 => (if (x13_2.length : Int) ≥ t226 then (some false) else (if 0 ≤ ((Int.tdiv t222 4) % 4294967296) then (if ((Int.tdiv t222 4) % 4294967296) < (t217.length : Int) then (if x13_2.length < 4398046511104 then (corrallaw9_WalkEnds.l0 k2 a1 a2 a3 a4 t217 (x13_2 ++ [(⟨t222, rd t217 ((Int.tdiv t222 4) % 4294967296), 0, 0, false⟩ : S52)]) x14_2 (wrap64 (x15_2 + 1))) else (none)) else (none)) else (none))))) else (some false)) else (if t220 = 4 then (if (wrap64 (x14_2 + 1)) > 1 then (some false) else (if (x13_2.length : Int) = 0 then (some false) else (if 0 ≤ (wrap64 ((x13_2.length : Int) - 1)) then (if (wrap64 ((x13_2.length : Int) - 1)) < (x13_2.length : Int) then (if ((rd_T52 x13_2 (wrap64 ((x13_2.length : Int) - 1))).f0) = t222 then ((pte_Needs.f ((rd_T52 x13_2 (wrap64 ((x13_2.length : Int) - 1))).f1) a4).bind fun t233 => (if t223 = t233 then (if t223 = ((rd_T52 x13_2 (wrap64 ((x13_2.length : Int) - 1))).f1) then (some false) else (corrallaw9_WalkEnds.l0 k2 a1 a2 a3 a4 t217 (x13_2.set ((wrap64 ((x13_2.length : Int) - 1)) : Int).toNat (⟨(rd_T52 x13_2 (wrap64 ((x13_2.length : Int) - 1))).f0, t223, (rd_T52 x13_2 (wrap64 ((x13_2.length : Int) - 1))).f2, (rd_T52 x13_2 (wrap64 ((x13_2.length : Int) - 1))).f3, (rd_T52 x13_2 (wrap64 ((x13_2.length : Int) - 1))).f4⟩ : S52)) (wrap64 (x14_2 + 1)) (wrap64 (x15_2 + 1)))) else (some false))) else (some false)) else (none)) else (none)))) else (if t220 = 1 then (if (Int.tmod t221 4096) = (Int.tmod a3 4096) then (if (x13_2.length : Int) = 0 then (if t221 = a3 then (some true) else (if (x13_2.length : Int) > 0 then (if 0 ≤ (wrap64 ((x13_2.length : Int) - 1)) then (if (wrap64 ((x13_2.length : Int) - 1)) < (x13_2.length : Int) then ((pte_May.f ((rd_T52 x13_2 (wrap64 ((x13_2.length : Int) - 1))).f1) a4 a2).bind fun t237 => (some t237)) else (none)) else (none)) else (some false))) else (if (x13_2.length : Int) > 0 then (if 0 ≤ (wrap64 ((x13_2.length : Int) - 1)) then (if (wrap64 ((x13_2.length : Int) - 1)) < (x13_2.length : Int) then ((pte_May.f ((rd_T52 x13_2 (wrap64 ((x13_2.length : Int) - 1))).f1) a4 a2).bind fun t239 => (some t239)) else (none)) else (none)) else (some false))) else (some false)) else (if t220 = 2 then ((pte_Cause.f a4 true).bind fun t240 => (if t224 = t240 then (some (t221 == 0)) else ((pte_Cause.f a4 false).bind fun t241 => (if t224 = t241 then (some (t221 == 0)) else (some false))))) else (some false))))) = some r := H
                have A15 := Aside0.mk A150
                clear A150
                by_cases c16 : t220 = 3
                · rw [if_pos c16] at H
                  have c16b0 : (t220 == 3) = true := beq_iff_eq.mpr c16
                  have c16b1 : (t220 != 3) = false := bne_eq_false_iff_eq.mpr c16
                  clear c16
                  by_cases c17 : (Int.tmod t222 4) = 0
                  · rw [if_pos c17] at H
                    have c17b0 : ((Int.tmod t222 4) == 0) = true := beq_iff_eq.mpr c17
                    have c17b1 : ((Int.tmod t222 4) != 0) = false := bne_eq_false_iff_eq.mpr c17
                    clear c17
                    by_cases c18 : ((Int.tdiv t222 4) % 4294967296) ≥ (t217.length : Int)
                    · rw [if_pos c18] at H
                      have c18b0 : decide ((t217.length : Int) ≤ ((Int.tdiv t222 4) % 4294967296)) = true := decide_eq_true c18
                      clear c18
                      exact absurd (Option.some.inj H) (by rw [HRT.out]; decide)
                    · rw [if_neg c18] at H
                      have c18b0 : decide ((t217.length : Int) ≤ ((Int.tdiv t222 4) % 4294967296)) = false := decide_eq_false c18
                      clear c18
                      replace H := Option.bind_eq_some_iff.mp H
                      obtain ⟨t226, A190, H⟩ := H
                      replace H : (if (x13_2.length : Int) ≥ t226 then (some false) else (if 0 ≤ ((Int.tdiv t222 4) % 4294967296) then (if ((Int.tdiv t222 4) % 4294967296) < (t217.length : Int) then (if x13_2.length < 4398046511104 then (corrallaw9_WalkEnds.l0 k2 a1 a2 a3 a4 t217 (x13_2 ++ [(⟨t222, rd t217 ((Int.tdiv t222 4) % 4294967296), 0, 0, false⟩ : S52)]) x14_2 (wrap64 (x15_2 + 1))) else (none)) else (none)) else (none))) = some r := H
                      have A19 := Aside0.mk A190
                      clear A190
                      by_cases c20 : (x13_2.length : Int) ≥ t226
                      · rw [if_pos c20] at H
                        have c20b0 : decide (t226 ≤ (x13_2.length : Int)) = true := decide_eq_true c20
                        clear c20
                        exact absurd (Option.some.inj H) (by rw [HRT.out]; decide)
                      · rw [if_neg c20] at H
                        have c20b0 : decide (t226 ≤ (x13_2.length : Int)) = false := decide_eq_false c20
                        clear c20
                        obtain ⟨ji21, hji21⟩ : ∃ j_ : Int, ((Int.tdiv t222 4) % 4294967296) = j_ := ⟨_, rfl⟩
                        have hji21w_ : IntKind.u32.wrap (Int.tdiv t222 4) = ji21 := hji21
                        replace H : (if 0 ≤ (ji21) then (if (ji21) < (t217.length : Int) then (if x13_2.length < 4398046511104 then (corrallaw9_WalkEnds.l0 k2 a1 a2 a3 a4 t217 (x13_2 ++ [(⟨t222, rd t217 (ji21), 0, 0, false⟩ : S52)]) x14_2 (wrap64 (x15_2 + 1))) else (none)) else (none)) else (none)) = some r := by first | (rw [hji21] at H; exact H) | (simp only [hji21] at H ⊢; exact H)
                        (try rw [hji21] at c18b0)
                        (try rw [hji21] at A15)
                        (try rw [hji21] at A19)
                        by_cases c22 : 0 ≤ (ji21)
                        · rw [if_pos c22] at H
                          have c22b0 : decide (0 ≤ (ji21)) = true := decide_eq_true c22
                          clear c22
                          by_cases c23 : (ji21) < (t217.length : Int)
                          · rw [if_pos c23] at H
                            have c23b0 : decide ((ji21) < (t217.length : Int)) = true := decide_eq_true c23
                            clear c23
                            by_cases c24 : x13_2.length < 4398046511104
                            · rw [if_pos c24] at H
                              have LMc24 := Aside0.mk c24
                              clear c24
                              obtain ⟨y228, hy228⟩ : ∃ y_ : List (S52), y_ = (x13_2 ++ [(⟨t222, rd t217 (ji21), 0, 0, false⟩ : S52)]) := ⟨_, rfl⟩
                              replace H : (corrallaw9_WalkEnds.l0 k2 a1 a2 a3 a4 t217 y228 x14_2 (wrap64 (x15_2 + 1))) = some r := by first | (rw [hy228]; with_reducible exact H) | (have H2_ := (Option.bind_some _ _).symm.trans H; rw [hy228]; with_reducible exact H2_) | (have H2_ := (Option.bind_some _ _).symm.trans H; with_reducible exact H2_) | with_reducible exact H | (rw [hy228]; exact H) | exact H
                              have Ny228 := Aside0.mk hy228
                              clear hy228
                              have H' := Aside0.mk H
                              clear H
                              obtain ⟨Ao25, co25, eo25⟩ := Kd.R_slice HO_12.out
                              subst eo25
                              obtain ⟨Ao26, co26, eo26⟩ := Kd.R_slice HO_13.out
                              subst eo26
                              try go_wp2_with (first | ((with_reducible refine gate_callee (f := 21) rfl ?_); refine goesL_ (some 42) rfl rfl Try.func21 (by kernel_rfl) rfl #[.int .u32 a1, .int .i64 a2, .int .u32 a3, .int .i64 a4, .int .i64 (wrap64 (4 * (t217.length : Int))), .slice Ao26 x13_2.length co26] rfl (by (try simp only [List.map_toArray, List.map_cons, List.map_nil]); first | done | rfl | (simp only [List.length_drop, List.length_take]; rfl)) ?_; (with_reducible refine (walk_Next.calls k2 a1 a2 a3 a4 (wrap64 (4 * (t217.length : Int))) _ _ x13_2 t220 t221 t222 t223 t224 _ ?side1 ?side2 A15.out).mono ?_); (case side1 => repeat (first | exact (Kd.R_reads' HO_13.out).2.2 | (with_reducible refine Kd.C_alloc ?_ _) | (with_reducible refine Kd.C_drewN ?_ _) | (with_reducible refine Kd.C_drew ?_))); (case side2 => exact (Kd.R_reads' HO_13.out).2.1); rintro e w27 ⟨rfl, hb⟩; refine ⟨_, rfl, ?_⟩; have n0_ := Aside0.mk (Kd.R_below (by (with_reducible repeat (first | apply Kd.R_alloc | apply Kd.R_drewN | apply Kd.R_drew)); exact HO_12.out) hb); have n1_ := Aside0.mk (Kd.R_below (by (with_reducible repeat (first | apply Kd.R_alloc | apply Kd.R_drewN | apply Kd.R_drew)); exact HO_13.out) hb); have n2_ := Aside0.mk (below_step (by repeat (first | (with_reducible first | exact HB.out | apply below_alloc | apply pw_below_drewN | apply below_drew1) | exact HB.out)) hb); clear HO_12; clear HO_13; clear HB; have HO_12 := n0_; have HO_13 := n1_; have HB := n2_; clear n0_ n1_ n2_; (try clear hb); (try clear hb2); (try clear hk); (try clear hi)) | ((with_reducible refine gate_dst (N := 16) rfl ?_); (try (refine gate_guard (by rfl) ?_; dsimp only)); refine box_event ?hg (N := 16) ?hd (cs := #[.int .i64 0, .int .u32 0, .int .u32 0, .int .u32 0, .int .u32 0]) (t := 48) ?hr ?_; (case hd => rfl); (case hg => rfl); (case hr => first | (go_simp; done) | (go_simp; rfl)); intro gb225 hg w28 hbox hb; have n0_ := Aside0.mk (Kd.R_below (by (with_reducible repeat (first | apply Kd.R_alloc | apply Kd.R_drewN | apply Kd.R_drew)); exact HO_12.out) hb); have n1_ := Aside0.mk (Kd.R_below (by (with_reducible repeat (first | apply Kd.R_alloc | apply Kd.R_drewN | apply Kd.R_drew)); exact HO_13.out) hb); have n2_ := Aside0.mk (below_step (by repeat (first | (with_reducible first | exact HB.out | apply below_alloc | apply pw_below_drewN | apply below_drew1) | exact HB.out)) hb); have n3_ := Aside0.mk (hbox); have n4_ := Aside0.mk ((by rw [hg]; exact (below_size (by repeat (first | (with_reducible first | exact HB.out | apply below_alloc | apply pw_below_drewN | apply below_drew1) | exact HB.out))) : w.heap.size ≤ gb225)); have n5_ := Aside0.mk ((by rw [hg]; exact (below_size (by repeat (first | (with_reducible first | exact HB.out | apply below_alloc | apply pw_below_drewN | apply below_drew1) | exact HB.out))) : w.heap.size ≤ gb225)); clear HO_12; clear HO_13; clear HB; have HO_12 := n0_; have HO_13 := n1_; have HB := n2_; have BK225 := n3_; have GW225 := n4_; have GE225 := n5_; clear n0_ n1_ n2_ n3_ n4_ n5_; clear hb hbox hg; have hcz29_0 : w28.cell? ⟨gb225, 0, none⟩ = some (.int .i64 0) := (blk_cell BK225.out 0).trans rfl; have hcz29_1 : w28.cell? ⟨gb225, 1, none⟩ = some (.int .u32 0) := (blk_cell BK225.out 1).trans rfl; have hcz29_2 : w28.cell? ⟨gb225, 2, none⟩ = some (.int .u32 0) := (blk_cell BK225.out 2).trans rfl; have hcz29_3 : w28.cell? ⟨gb225, 3, none⟩ = some (.int .u32 0) := (blk_cell BK225.out 3).trans rfl; have hcz29_4 : w28.cell? ⟨gb225, 4, none⟩ = some (.int .u32 0) := (blk_cell BK225.out 4).trans rfl; have hfz29_0 := blk_frozen BK225.out 0; have hfz29_1 := blk_frozen BK225.out 1; have hfz29_2 := blk_frozen BK225.out 2; have hfz29_3 := blk_frozen BK225.out 3; have hfz29_4 := blk_frozen BK225.out 4) | (go_at_call 22; (with_reducible refine (walk_Entries.calls a1 a2 t226 _ A19.out).mono ?_); rintro e w30 ⟨rfl, hb⟩; have n0_ := Aside0.mk (Kd.R_below (by (with_reducible repeat (first | apply Kd.R_alloc | apply Kd.R_drewN | apply Kd.R_drew)); exact (Kd.R_mono (Kd.R_far (p := ⟨gb225, 4, none⟩) (Kd.R_far (p := ⟨gb225, 3, none⟩) (Kd.R_far (p := ⟨gb225, 2, none⟩) (Kd.R_far (p := ⟨gb225, 1, none⟩) (Kd.R_far (p := ⟨gb225, 0, none⟩) (Kd.R_types HO_12.out BK225.out (by decide)) (fun _ hk => hk.2) (.int .i64 t220)) (fun _ hk => hk.2) (.int .u32 t221)) (fun _ hk => hk.2) (.int .u32 t222)) (fun _ hk => hk.2) (.int .u32 t223)) (fun _ hk => hk.2) (.int .u32 t224)) (fun _ h_ => h_.1))) hb); have n1_ := Aside0.mk (Kd.R_below (by (with_reducible repeat (first | apply Kd.R_alloc | apply Kd.R_drewN | apply Kd.R_drew)); exact (Kd.R_mono (Kd.R_far (p := ⟨gb225, 4, none⟩) (Kd.R_far (p := ⟨gb225, 3, none⟩) (Kd.R_far (p := ⟨gb225, 2, none⟩) (Kd.R_far (p := ⟨gb225, 1, none⟩) (Kd.R_far (p := ⟨gb225, 0, none⟩) (Kd.R_types HO_13.out BK225.out (by decide)) (fun _ hk => hk.2) (.int .i64 t220)) (fun _ hk => hk.2) (.int .u32 t221)) (fun _ hk => hk.2) (.int .u32 t222)) (fun _ hk => hk.2) (.int .u32 t223)) (fun _ hk => hk.2) (.int .u32 t224)) (fun _ h_ => h_.1))) hb); have n2_ := Aside0.mk (blk_below (g := gb225) (o := .cells #[.int .i64 t220, .int .u32 t221, .int .u32 t222, .int .u32 t223, .int .u32 t224] 48 (0, 0)) (by (with_reducible repeat (first | refine blk_drewN ?_ _ | refine blk_drew ?_ | refine blk_alloc ?_ _)); refine blk_put (cs := #[.int .i64 t220, .int .u32 t221, .int .u32 t222, .int .u32 t223, .int .u32 0]) ?_ 4 _ rfl; (with_reducible repeat (first | refine blk_drewN ?_ _ | refine blk_drew ?_ | refine blk_alloc ?_ _)); refine blk_put (cs := #[.int .i64 t220, .int .u32 t221, .int .u32 t222, .int .u32 0, .int .u32 0]) ?_ 3 _ rfl; (with_reducible repeat (first | refine blk_drewN ?_ _ | refine blk_drew ?_ | refine blk_alloc ?_ _)); refine blk_put (cs := #[.int .i64 t220, .int .u32 t221, .int .u32 0, .int .u32 0, .int .u32 0]) ?_ 2 _ rfl; (with_reducible repeat (first | refine blk_drewN ?_ _ | refine blk_drew ?_ | refine blk_alloc ?_ _)); refine blk_put (cs := #[.int .i64 t220, .int .u32 0, .int .u32 0, .int .u32 0, .int .u32 0]) ?_ 1 _ rfl; (with_reducible repeat (first | refine blk_drewN ?_ _ | refine blk_drew ?_ | refine blk_alloc ?_ _)); refine blk_put (cs := #[.int .i64 0, .int .u32 0, .int .u32 0, .int .u32 0, .int .u32 0]) ?_ 0 _ rfl; (with_reducible repeat (first | refine blk_drewN ?_ _ | refine blk_drew ?_ | refine blk_alloc ?_ _)); exact BK225.out) hb); have n3_ := Aside0.mk (below_step (by repeat (first | (with_reducible first | exact HB.out | apply below_alloc | apply pw_below_drewN | apply below_drew1 | refine below_set ?_ GE225.out) | exact HB.out)) hb); clear HO_12; clear HO_13; clear BK225; clear HB; have HO_12 := n0_; have HO_13 := n1_; have BK225 := n2_; have HB := n3_; clear n0_ n1_ n2_ n3_; (try clear hb); (try clear hb2); (try clear hk); (try clear hi)))
                              have n0_ := Aside0.mk (Kd.R_drew HO_12.out)
                              have n1_ := Aside0.mk (Kd.R_drew HO_13.out)
                              have n2_ := Aside0.mk (blk_drew BK225.out)
                              have n3_ := Aside0.mk (below_drew1 HB.out)
                              clear HO_12
                              clear HO_13
                              clear BK225
                              clear HB
                              have HO_12 := n0_
                              have HO_13 := n1_
                              have BK225 := n2_
                              have HB := n3_
                              clear n0_ n1_ n2_ n3_
                              have p227 : 0 ≤ ((ji21) : Int) := of_decide_eq_true (by first | (with_reducible assumption) | assumption)
                              have q227 : (ji21) < (t217.length : Int) := of_decide_eq_true (by first | (with_reducible assumption) | assumption)
                              obtain ⟨ad227, e227, hx227_0⟩ := Kd.at_int (Kd.R_reads' HO_12.out).2.2 (ji21) p227 q227
                              cases e227
                              replace p227 := eq_true p227
                              replace q227 := eq_true q227
                              refine start_ (n := 13) (S := fun w' => w'.cell? ⟨gb225, 0, none⟩ = some (.int .i64 t220) ∧ w'.cell? ⟨gb225, 1, none⟩ = some (.int .u32 t221) ∧ w'.cell? ⟨gb225, 2, none⟩ = some (.int .u32 t222) ∧ w'.cell? ⟨gb225, 3, none⟩ = some (.int .u32 t223) ∧ w'.cell? ⟨gb225, 4, none⟩ = some (.int .u32 t224) ∧ w'.cell? (ad227.add ((ji21)).toNat) = some (.int .u32 (rd t217 (ji21)))) (ds := [10, 11]) #[false, false, false, false, false, false, false, false, false, false, false, false, false] (by kernel_rfl) rfl rfl ⟨(blk_cell BK225.out 0).trans rfl, (blk_cell BK225.out 1).trans rfl, (blk_cell BK225.out 2).trans rfl, (blk_cell BK225.out 3).trans rfl, (blk_cell BK225.out 4).trans rfl, hx227_0⟩ (fun hHeld => ?_); refine with_tabW corrallaw9_WalkEnds.tab18 corrallaw9_WalkEnds.bits18 (fun HT_ HW_ => ?_)
                              generalize w30.drew = w31 at HO_12 HO_13 BK225 HB hx227_0 hHeld ⊢
                              refine pure_ (i := 0) (N := some 90) (v := ?_) (a' := ?_) #[true, false, false, false, false, false, false, false, false, false, false, false, false] rfl rfl (any_of HT_.out (by kernel_rfl)) (fun _ _ _ h => h) (Or.inl ⟨by rfl, ?_⟩) ?_ ?_
                              rotate_left
                              · intro w'
                                go_simp
                                with_reducible rfl
                              rotate_left
                              · simp only [Act.put, List.setIfInBounds_toArray, List.set_cons_zero, List.set_cons_succ, i64_w, i32_w]
                                rfl
                              refine pure_ (i := 1) (N := some 91) (v := ?_) (a' := ?_) #[true, true, false, false, false, false, false, false, false, false, false, false, false] rfl rfl (any_of HT_.out (by kernel_rfl)) (fun _ _ _ h => h) (Or.inl ⟨by rfl, ?_⟩) ?_ ?_
                              rotate_left
                              · intro w'
                                go_simp
                                with_reducible rfl
                              rotate_left
                              · simp only [Act.put, List.setIfInBounds_toArray, List.set_cons_zero, List.set_cons_succ, i64_w, i32_w]
                                rfl
                              refine pure_ (i := 3) (N := some 93) (v := ?_) (a' := ?_) #[true, true, false, true, false, false, false, false, false, false, false, false, false] rfl rfl (any_of HT_.out (by kernel_rfl)) (fun _ _ _ h => h) (Or.inl ⟨by rfl, ?_⟩) ?_ ?_
                              rotate_left
                              · intro w'
                                go_simp
                                with_reducible rfl
                              rotate_left
                              · simp only [Act.put, List.setIfInBounds_toArray, List.set_cons_zero, List.set_cons_succ, i64_w, i32_w]
                                rfl
                              refine pure_ (i := 4) (N := some 94) (v := ?_) (a' := ?_) #[true, true, false, true, true, false, false, false, false, false, false, false, false] rfl rfl (any_of HT_.out (by kernel_rfl)) (fun _ _ _ h => h) (Or.inl ⟨by rfl, ?_⟩) ?_ ?_
                              rotate_left
                              · intro w'
                                go_simp
                                with_reducible rfl
                              rotate_left
                              · simp only [Act.put, List.setIfInBounds_toArray, List.set_cons_zero, List.set_cons_succ, i64_w, i32_w]
                                rfl
                              refine take_ (i := 2) (N := some 92) (v := ?_) (a' := ?_) #[true, true, true, true, true, false, false, false, false, false, false, false, false] rfl rfl (take_ofW HT_.out HW_.out (by kernel_rfl)) (fun _ _ _ h => h) (Or.inl ⟨by rfl, ?_⟩) hHeld ?_ ?_
                              rotate_left
                              · rintro w' ⟨s0, s1, s2, s3, s4, s5⟩
                                go_simp
                                with_reducible rfl
                              rotate_left
                              · simp only [Act.put, List.setIfInBounds_toArray, List.set_cons_zero, List.set_cons_succ, i64_w, i32_w]
                                rfl
                              refine take_ (i := 5) (N := some 95) (v := ?_) (a' := ?_) #[true, true, true, true, true, true, false, false, false, false, false, false, false] rfl rfl (take_ofW HT_.out HW_.out (by kernel_rfl)) (fun _ _ _ h => h) (Or.inl ⟨by rfl, ?_⟩) hHeld ?_ ?_
                              rotate_left
                              · rintro w' ⟨s0, s1, s2, s3, s4, s5⟩
                                go_simp
                                with_reducible rfl
                              rotate_left
                              · simp only [Act.put, List.setIfInBounds_toArray, List.set_cons_zero, List.set_cons_succ, i64_w, i32_w]
                                rfl
                              refine pure_ (i := 6) (N := some 96) (v := ?_) (a' := ?_) #[true, true, true, true, true, true, true, false, false, false, false, false, false] rfl rfl (any_of HT_.out (by kernel_rfl)) (fun _ _ _ h => h) (Or.inl ⟨by rfl, ?_⟩) ?_ ?_
                              rotate_left
                              · intro w'
                                go_simp
                                with_reducible rfl
                              rotate_left
                              · simp only [Act.put, List.setIfInBounds_toArray, List.set_cons_zero, List.set_cons_succ, i64_w, i32_w]
                                rfl
                              refine pure_ (i := 7) (N := some 97) (v := ?_) (a' := ?_) #[true, true, true, true, true, true, true, true, false, false, false, false, false] rfl rfl (any_of HT_.out (by kernel_rfl)) (fun _ _ _ h => h) (Or.inl ⟨by rfl, ?_⟩) ?_ ?_
                              rotate_left
                              · intro w'
                                go_simp
                                with_reducible rfl
                              rotate_left
                              · simp only [Act.put, List.setIfInBounds_toArray, List.set_cons_zero, List.set_cons_succ, i64_w, i32_w]
                                rfl
                              refine take_ (i := 8) (N := some 98) (v := ?_) (a' := ?_) #[true, true, true, true, true, true, true, true, true, false, false, false, false] rfl rfl (take_ofW HT_.out HW_.out (by kernel_rfl)) (fun _ _ _ h => h) (Or.inl ⟨by rfl, ?_⟩) hHeld ?_ ?_
                              rotate_left
                              · rintro w' ⟨s0, s1, s2, s3, s4, s5⟩
                                go_simp
                                with_reducible rfl
                              rotate_left
                              · simp only [Act.put, List.setIfInBounds_toArray, List.set_cons_zero, List.set_cons_succ, i64_w, i32_w]
                                rfl
                              refine pure_ (i := 9) (N := some 99) (v := ?_) (a' := ?_) #[true, true, true, true, true, true, true, true, true, true, false, false, false] rfl rfl (any_of HT_.out (by kernel_rfl)) (fun _ _ _ h => h) (Or.inl ⟨by rfl, ?_⟩) ?_ ?_
                              rotate_left
                              · intro w'
                                go_simp
                                with_reducible rfl
                              rotate_left
                              · simp only [Act.put, List.setIfInBounds_toArray, List.set_cons_zero, List.set_cons_succ, i64_w, i32_w]
                                rfl
                              refine last_ (i := 10) (N := some 100) #[true, true, true, true, true, true, true, true, true, true, true, false, false] rfl rfl (one_of HT_.out (by kernel_rfl)) (by decide) (fun K hK => ?_)
                              refine value_ (w1 := ?_) (v := ?_) (by rfl) rfl ?_ ?_
                              rotate_left 2
                              · go_simp
                                constructor
                                · rfl
                                · rfl
                              refine hK.out _ _ ?_
                              clear hK K
                              refine norm_ (a' := ?_) ?_ ?_
                              rotate_left
                              · show Act.put _ (some 100) _ = _
                                simp only [Act.put, List.setIfInBounds_toArray, List.set_cons_zero, List.set_cons_succ, i64_w, i32_w]
                                rfl
                              refine last_ (i := 11) (N := some 101) #[true, true, true, true, true, true, true, true, true, true, true, true, false] rfl rfl (one_of HT_.out (by kernel_rfl)) (by decide) (fun K hK => ?_)
                              refine Kd.R_append_step k52 (w0 := w) w.heap.size (by rfl) (.tmp 90) (.tmp 100) 46 52 (.agg #[(.int .u32 0), (.int .u32 0), (.int .u32 0), (.int .i64 0), (.bool false)]) 32 rfl Try.underlying46 info52 rfl (by decide) (by omega) (.slice Ao26 x13_2.length co26) x13_2 (⟨t222, rd t217 (ji21), 0, 0, false⟩ : S52) [.int .u32 t222, .int .u32 (rd t217 (ji21)), .int .u32 0, .int .i64 0, .bool false] (fun _ => True) (fun _ => False) rfl rfl ?aP (fun _ hk => hk.elim) ?aF ?aO ?aB ?aS ?aL ?_
                              (case aP => exact k52_mkM _ _ _ (⟨t222, rd t217 (ji21), 0, 0, false⟩ : S52))
                              (case aB => exact (by repeat (first | (with_reducible first | exact HB.out | apply below_alloc | apply pw_below_drewN | apply below_drew1 | refine below_set ?_ GE225.out) | exact HB.out)))
                              (case aF => exact (fun _ _ => trivial))
                              (case aO => exact (by (with_reducible repeat (first | apply Kd.R_alloc | apply Kd.R_drewN | apply Kd.R_drew)); exact HO_13.out))
                              (case aS => exact (below_size (by repeat (first | (with_reducible first | exact HB.out | apply below_alloc | apply pw_below_drewN | apply below_drew1 | refine below_set ?_ GE225.out) | exact HB.out))))
                              (case aL => have := LMc24.out; omega)
                              intro v229 w32 ho hb hg hat
                              rw [← Ny228.out] at ho
                              have n0_ := Aside0.mk (Kd.R_over' (by (with_reducible repeat (first | apply Kd.R_alloc | apply Kd.R_drewN | apply Kd.R_drew)); exact HO_12.out) (Kd.R_typed (by (with_reducible repeat (first | apply Kd.R_alloc | apply Kd.R_drewN | apply Kd.R_drew)); exact HO_13.out)) (by decide) hg)
                              have n1_ := Aside0.mk (blk_grown (g := gb225) (o := .cells #[.int .i64 t220, .int .u32 t221, .int .u32 t222, .int .u32 t223, .int .u32 t224] 48 (0, 0)) (by (with_reducible repeat (first | refine blk_drewN ?_ _ | refine blk_drew ?_ | refine blk_alloc ?_ _)); exact BK225.out) hg (Kd.R_ne HO_13.out BK225.out (by decide)))
                              have n2_ := Aside0.mk (hb)
                              have n3_ := Aside0.mk (ho)
                              clear HO_12
                              clear BK225
                              clear HB
                              clear HO_13
                              have HO_12 := n0_
                              have BK225 := n1_
                              have HB := n2_
                              have HO230 := n3_
                              clear n0_ n1_ n2_ n3_
                              clear ho hb hg hat
                              refine hK.out _ _ ?_
                              clear hK K
                              refine norm_ (a' := ?_) ?_ ?_
                              rotate_left
                              · show Act.put _ (some 101) _ = _
                                simp only [Act.put, List.setIfInBounds_toArray, List.set_cons_zero, List.set_cons_succ, i64_w, i32_w]
                                rfl
                              refine pure_ (i := 12) (N := some 13) (v := ?_) (a' := ?_) #[true, true, true, true, true, true, true, true, true, true, true, true, true] rfl rfl (any_of HT_.out (by kernel_rfl)) (fun _ _ _ h => h) (Or.inl ⟨by rfl, ?_⟩) ?_ ?_
                              rotate_left
                              · intro w'
                                go_simp
                                with_reducible rfl
                              rotate_left
                              · simp only [Act.put, List.setIfInBounds_toArray, List.set_cons_zero, List.set_cons_succ, i64_w, i32_w]
                                rfl
                              refine done_ (done_of HT_.out (by kernel_rfl)) ?_
                              try go_wp2
                              go_roundg k2
                              case measure => have := HJ7.out; have := HK2.out; omega
                              case rel => exact ⟨(y228), (x14_2), (wrap64 (x15_2 + 1)), (by first | rfl | (simp; done) | (simp [*]; done)), (by first | rfl | (simp; done) | (simp [*]; done)), H', ⟨by have := HJ7.out; have := HK2.out; omega⟩, ⟨by (with_reducible repeat (first | apply Kd.R_alloc | apply Kd.R_drewN | apply Kd.R_drew)); exact HO_12.out⟩, ⟨by (with_reducible repeat (first | apply Kd.R_alloc | apply Kd.R_drewN | apply Kd.R_drew)); exact HO230.out⟩, ⟨by repeat (first | (with_reducible first | exact HB.out | apply below_alloc | apply pw_below_drewN | apply below_drew1 | refine below_set ?_ GE225.out) | exact HB.out)⟩⟩
                            · rw [if_neg c24] at H
                              exact absurd H (by simp)
                          · rw [if_neg c23] at H
                            exact absurd H (by simp)
                        · rw [if_neg c22] at H
                          exact absurd H (by simp)
                  · rw [if_neg c17] at H
                    have c17b0 : ((Int.tmod t222 4) == 0) = false := beq_eq_false_iff_ne.mpr c17
                    have c17b1 : ((Int.tmod t222 4) != 0) = true := bne_iff_ne.mpr c17
                    exact absurd (Option.some.inj H) (by rw [HRT.out]; decide)
                · rw [if_neg c16] at H
                  have c16b0 : (t220 == 3) = false := beq_eq_false_iff_ne.mpr c16
                  have c16b1 : (t220 != 3) = true := bne_iff_ne.mpr c16
                  by_cases c33 : t220 = 4
                  · rw [if_pos c33] at H
                    have c33b0 : (t220 == 4) = true := beq_iff_eq.mpr c33
                    have c33b1 : (t220 != 4) = false := bne_eq_false_iff_eq.mpr c33
                    clear c33
                    by_cases c34 : (wrap64 (x14_2 + 1)) > 1
                    · rw [if_pos c34] at H
                      have c34b0 : decide (1 < (wrap64 (x14_2 + 1))) = true := decide_eq_true c34
                      clear c34
                      exact absurd (Option.some.inj H) (by rw [HRT.out]; decide)
                    · rw [if_neg c34] at H
                      have c34b0 : decide (1 < (wrap64 (x14_2 + 1))) = false := decide_eq_false c34
                      clear c34
                      by_cases c35 : (x13_2.length : Int) = 0
                      · rw [if_pos c35] at H
                        have c35b0 : ((x13_2.length : Int) == 0) = true := beq_iff_eq.mpr c35
                        have c35b1 : ((x13_2.length : Int) != 0) = false := bne_eq_false_iff_eq.mpr c35
                        clear c35
                        exact absurd (Option.some.inj H) (by rw [HRT.out]; decide)
                      · rw [if_neg c35] at H
                        have c35b0 : ((x13_2.length : Int) == 0) = false := beq_eq_false_iff_ne.mpr c35
                        have c35b1 : ((x13_2.length : Int) != 0) = true := bne_iff_ne.mpr c35
                        have c35b2 : ¬ (x13_2 = []) := fun h_ => c35 (by rw [h_]; rfl)
                        obtain ⟨ji36, hji36⟩ : ∃ j_ : Int, (wrap64 ((x13_2.length : Int) - 1)) = j_ := ⟨_, rfl⟩
                        replace H : (if 0 ≤ (ji36) then (if (ji36) < (x13_2.length : Int) then (if ((rd_T52 x13_2 (ji36)).f0) = t222 then ((pte_Needs.f ((rd_T52 x13_2 (ji36)).f1) a4).bind fun t233 => (if t223 = t233 then (if t223 = ((rd_T52 x13_2 (ji36)).f1) then (some false) else (corrallaw9_WalkEnds.l0 k2 a1 a2 a3 a4 t217 (x13_2.set ((ji36) : Int).toNat (⟨(rd_T52 x13_2 (ji36)).f0, t223, (rd_T52 x13_2 (ji36)).f2, (rd_T52 x13_2 (ji36)).f3, (rd_T52 x13_2 (ji36)).f4⟩ : S52)) (wrap64 (x14_2 + 1)) (wrap64 (x15_2 + 1)))) else (some false))) else (some false)) else (none)) else (none)) = some r := by first | (rw [hji36] at H; exact H) | (simp only [hji36] at H ⊢; exact H)
                        (try rw [hji36] at A15)
                        have hji36w : (IntKind.i64.wrap ((x13_2.length : Int) - 1)) = ji36 := (i64_w _).trans hji36
                        by_cases c37 : 0 ≤ (ji36)
                        · rw [if_pos c37] at H
                          have c37b0 : decide (0 ≤ (ji36)) = true := decide_eq_true c37
                          clear c37
                          by_cases c38 : (ji36) < (x13_2.length : Int)
                          · rw [if_pos c38] at H
                            have c38b0 : decide ((ji36) < (x13_2.length : Int)) = true := decide_eq_true c38
                            clear c38
                            by_cases c39 : ((rd_T52 x13_2 (ji36)).f0) = t222
                            · rw [if_pos c39] at H
                              have c39b0 : (((rd_T52 x13_2 (ji36)).f0) == t222) = true := beq_iff_eq.mpr c39
                              have c39b1 : (((rd_T52 x13_2 (ji36)).f0) != t222) = false := bne_eq_false_iff_eq.mpr c39
                              clear c39
                              replace H := Option.bind_eq_some_iff.mp H
                              obtain ⟨t233, A400, H⟩ := H
                              replace H : (if t223 = t233 then (if t223 = ((rd_T52 x13_2 (ji36)).f1) then (some false) else (corrallaw9_WalkEnds.l0 k2 a1 a2 a3 a4 t217 (x13_2.set ((ji36) : Int).toNat (⟨(rd_T52 x13_2 (ji36)).f0, t223, (rd_T52 x13_2 (ji36)).f2, (rd_T52 x13_2 (ji36)).f3, (rd_T52 x13_2 (ji36)).f4⟩ : S52)) (wrap64 (x14_2 + 1)) (wrap64 (x15_2 + 1)))) else (some false)) = some r := H
                              have A40 := Aside0.mk A400
                              clear A400
                              by_cases c41 : t223 = t233
                              · rw [if_pos c41] at H
                                have c41b0 : (t223 == t233) = true := beq_iff_eq.mpr c41
                                have c41b1 : (t223 != t233) = false := bne_eq_false_iff_eq.mpr c41
                                clear c41
                                by_cases c42 : t223 = ((rd_T52 x13_2 (ji36)).f1)
                                · rw [if_pos c42] at H
                                  have c42b0 : (t223 == ((rd_T52 x13_2 (ji36)).f1)) = true := beq_iff_eq.mpr c42
                                  have c42b1 : (t223 != ((rd_T52 x13_2 (ji36)).f1)) = false := bne_eq_false_iff_eq.mpr c42
                                  clear c42
                                  exact absurd (Option.some.inj H) (by rw [HRT.out]; decide)
                                · rw [if_neg c42] at H
                                  have c42b0 : (t223 == ((rd_T52 x13_2 (ji36)).f1)) = false := beq_eq_false_iff_ne.mpr c42
                                  have c42b1 : (t223 != ((rd_T52 x13_2 (ji36)).f1)) = true := bne_iff_ne.mpr c42
                                  obtain ⟨y235, hy235⟩ : ∃ y_ : List (S52), y_ = (x13_2.set ((ji36) : Int).toNat (⟨(rd_T52 x13_2 (ji36)).f0, t223, (rd_T52 x13_2 (ji36)).f2, (rd_T52 x13_2 (ji36)).f3, (rd_T52 x13_2 (ji36)).f4⟩ : S52)) := ⟨_, rfl⟩
                                  replace H : (corrallaw9_WalkEnds.l0 k2 a1 a2 a3 a4 t217 y235 (wrap64 (x14_2 + 1)) (wrap64 (x15_2 + 1))) = some r := by first | (rw [hy235]; with_reducible exact H) | (have H2_ := (Option.bind_some _ _).symm.trans H; rw [hy235]; with_reducible exact H2_) | (have H2_ := (Option.bind_some _ _).symm.trans H; with_reducible exact H2_) | with_reducible exact H | (rw [hy235]; exact H) | exact H
                                  have Ny235 := Aside0.mk hy235
                                  clear hy235
                                  have H' := Aside0.mk H
                                  clear H
                                  obtain ⟨Ao44, co44, eo44⟩ := Kd.R_slice HO_12.out
                                  subst eo44
                                  obtain ⟨Ao45, co45, eo45⟩ := Kd.R_slice HO_13.out
                                  subst eo45
                                  try go_wp2_with (first | ((with_reducible refine gate_callee (f := 21) rfl ?_); refine goesL_ (some 42) rfl rfl Try.func21 (by kernel_rfl) rfl #[.int .u32 a1, .int .i64 a2, .int .u32 a3, .int .i64 a4, .int .i64 (wrap64 (4 * (t217.length : Int))), .slice Ao45 x13_2.length co45] rfl (by (try simp only [List.map_toArray, List.map_cons, List.map_nil]); first | done | rfl | (simp only [List.length_drop, List.length_take]; rfl)) ?_; (with_reducible refine (walk_Next.calls k2 a1 a2 a3 a4 (wrap64 (4 * (t217.length : Int))) _ _ x13_2 t220 t221 t222 t223 t224 _ ?side1 ?side2 A15.out).mono ?_); (case side1 => repeat (first | exact (Kd.R_reads' HO_13.out).2.2 | (with_reducible refine Kd.C_alloc ?_ _) | (with_reducible refine Kd.C_drewN ?_ _) | (with_reducible refine Kd.C_drew ?_))); (case side2 => exact (Kd.R_reads' HO_13.out).2.1); rintro e w46 ⟨rfl, hb⟩; refine ⟨_, rfl, ?_⟩; have n0_ := Aside0.mk (Kd.R_below (by (with_reducible repeat (first | apply Kd.R_alloc | apply Kd.R_drewN | apply Kd.R_drew)); exact HO_12.out) hb); have n1_ := Aside0.mk (Kd.R_below (by (with_reducible repeat (first | apply Kd.R_alloc | apply Kd.R_drewN | apply Kd.R_drew)); exact HO_13.out) hb); have n2_ := Aside0.mk (below_step (by repeat (first | (with_reducible first | exact HB.out | apply below_alloc | apply pw_below_drewN | apply below_drew1) | exact HB.out)) hb); clear HO_12; clear HO_13; clear HB; have HO_12 := n0_; have HO_13 := n1_; have HB := n2_; clear n0_ n1_ n2_; (try clear hb); (try clear hb2); (try clear hk); (try clear hi)) | ((with_reducible refine gate_dst (N := 16) rfl ?_); (try (refine gate_guard (by rfl) ?_; dsimp only)); refine box_event ?hg (N := 16) ?hd (cs := #[.int .i64 0, .int .u32 0, .int .u32 0, .int .u32 0, .int .u32 0]) (t := 48) ?hr ?_; (case hd => rfl); (case hg => rfl); (case hr => first | (go_simp; done) | (go_simp; rfl)); intro gb225 hg w47 hbox hb; have n0_ := Aside0.mk (Kd.R_below (by (with_reducible repeat (first | apply Kd.R_alloc | apply Kd.R_drewN | apply Kd.R_drew)); exact HO_12.out) hb); have n1_ := Aside0.mk (Kd.R_below (by (with_reducible repeat (first | apply Kd.R_alloc | apply Kd.R_drewN | apply Kd.R_drew)); exact HO_13.out) hb); have n2_ := Aside0.mk (below_step (by repeat (first | (with_reducible first | exact HB.out | apply below_alloc | apply pw_below_drewN | apply below_drew1) | exact HB.out)) hb); have n3_ := Aside0.mk (hbox); have n4_ := Aside0.mk ((by rw [hg]; exact (below_size (by repeat (first | (with_reducible first | exact HB.out | apply below_alloc | apply pw_below_drewN | apply below_drew1) | exact HB.out))) : w.heap.size ≤ gb225)); have n5_ := Aside0.mk ((by rw [hg]; exact (below_size (by repeat (first | (with_reducible first | exact HB.out | apply below_alloc | apply pw_below_drewN | apply below_drew1) | exact HB.out))) : w.heap.size ≤ gb225)); clear HO_12; clear HO_13; clear HB; have HO_12 := n0_; have HO_13 := n1_; have HB := n2_; have BK225 := n3_; have GW225 := n4_; have GE225 := n5_; clear n0_ n1_ n2_ n3_ n4_ n5_; clear hb hbox hg; have hcz48_0 : w47.cell? ⟨gb225, 0, none⟩ = some (.int .i64 0) := (blk_cell BK225.out 0).trans rfl; have hcz48_1 : w47.cell? ⟨gb225, 1, none⟩ = some (.int .u32 0) := (blk_cell BK225.out 1).trans rfl; have hcz48_2 : w47.cell? ⟨gb225, 2, none⟩ = some (.int .u32 0) := (blk_cell BK225.out 2).trans rfl; have hcz48_3 : w47.cell? ⟨gb225, 3, none⟩ = some (.int .u32 0) := (blk_cell BK225.out 3).trans rfl; have hcz48_4 : w47.cell? ⟨gb225, 4, none⟩ = some (.int .u32 0) := (blk_cell BK225.out 4).trans rfl; have hfz48_0 := blk_frozen BK225.out 0; have hfz48_1 := blk_frozen BK225.out 1; have hfz48_2 := blk_frozen BK225.out 2; have hfz48_3 := blk_frozen BK225.out 3; have hfz48_4 := blk_frozen BK225.out 4))
                                  have n0_ : Aside0 (Kd.R (Kd.int .u32) 23 (((((w47.setCell ⟨gb225, 0, none⟩ (.int .i64 t220)).setCell ⟨gb225, 1, none⟩ (.int .u32 t221)).setCell ⟨gb225, 2, none⟩ (.int .u32 t222)).setCell ⟨gb225, 3, none⟩ (.int .u32 t223)).setCell ⟨gb225, 4, none⟩ (.int .u32 t224)) w.heap.size (fun _ => True) (.slice Ao44 t217.length co44) t217) := ⟨by (with_reducible repeat (first | apply Kd.R_alloc | apply Kd.R_drewN | apply Kd.R_drew)); exact Kd.R_mono (Kd.R_far (p := ⟨gb225, 4, none⟩) (Kd.R_far (p := ⟨gb225, 3, none⟩) (Kd.R_far (p := ⟨gb225, 2, none⟩) (Kd.R_far (p := ⟨gb225, 1, none⟩) (Kd.R_far (p := ⟨gb225, 0, none⟩) (Kd.R_types HO_12.out BK225.out (by decide)) (fun _ hk => hk.2) (.int .i64 t220)) (fun _ hk => hk.2) (.int .u32 t221)) (fun _ hk => hk.2) (.int .u32 t222)) (fun _ hk => hk.2) (.int .u32 t223)) (fun _ hk => hk.2) (.int .u32 t224)) (fun _ hk => trivial)⟩
                                  have n1_ : Aside0 (Kd.R k52 52 (((((w47.setCell ⟨gb225, 0, none⟩ (.int .i64 t220)).setCell ⟨gb225, 1, none⟩ (.int .u32 t221)).setCell ⟨gb225, 2, none⟩ (.int .u32 t222)).setCell ⟨gb225, 3, none⟩ (.int .u32 t223)).setCell ⟨gb225, 4, none⟩ (.int .u32 t224)) w.heap.size (fun _ => True) (.slice Ao45 x13_2.length co45) x13_2) := ⟨by (with_reducible repeat (first | apply Kd.R_alloc | apply Kd.R_drewN | apply Kd.R_drew)); exact Kd.R_mono (Kd.R_far (p := ⟨gb225, 4, none⟩) (Kd.R_far (p := ⟨gb225, 3, none⟩) (Kd.R_far (p := ⟨gb225, 2, none⟩) (Kd.R_far (p := ⟨gb225, 1, none⟩) (Kd.R_far (p := ⟨gb225, 0, none⟩) (Kd.R_types HO_13.out BK225.out (by decide)) (fun _ hk => hk.2) (.int .i64 t220)) (fun _ hk => hk.2) (.int .u32 t221)) (fun _ hk => hk.2) (.int .u32 t222)) (fun _ hk => hk.2) (.int .u32 t223)) (fun _ hk => hk.2) (.int .u32 t224)) (fun _ hk => trivial)⟩
                                  have n2_ : Aside0 ((((((w47.setCell ⟨gb225, 0, none⟩ (.int .i64 t220)).setCell ⟨gb225, 1, none⟩ (.int .u32 t221)).setCell ⟨gb225, 2, none⟩ (.int .u32 t222)).setCell ⟨gb225, 3, none⟩ (.int .u32 t223)).setCell ⟨gb225, 4, none⟩ (.int .u32 t224)).heap[gb225]? = some (.cells #[.int .i64 t220, .int .u32 t221, .int .u32 t222, .int .u32 t223, .int .u32 t224] 48 (0, 0))) := ⟨by (with_reducible repeat (first | refine blk_drewN ?_ _ | refine blk_drew ?_ | refine blk_alloc ?_ _)); refine blk_put (cs := #[.int .i64 t220, .int .u32 t221, .int .u32 t222, .int .u32 t223, .int .u32 0]) ?_ 4 _ rfl; (with_reducible repeat (first | refine blk_drewN ?_ _ | refine blk_drew ?_ | refine blk_alloc ?_ _)); refine blk_put (cs := #[.int .i64 t220, .int .u32 t221, .int .u32 t222, .int .u32 0, .int .u32 0]) ?_ 3 _ rfl; (with_reducible repeat (first | refine blk_drewN ?_ _ | refine blk_drew ?_ | refine blk_alloc ?_ _)); refine blk_put (cs := #[.int .i64 t220, .int .u32 t221, .int .u32 0, .int .u32 0, .int .u32 0]) ?_ 2 _ rfl; (with_reducible repeat (first | refine blk_drewN ?_ _ | refine blk_drew ?_ | refine blk_alloc ?_ _)); refine blk_put (cs := #[.int .i64 t220, .int .u32 0, .int .u32 0, .int .u32 0, .int .u32 0]) ?_ 1 _ rfl; (with_reducible repeat (first | refine blk_drewN ?_ _ | refine blk_drew ?_ | refine blk_alloc ?_ _)); refine blk_put (cs := #[.int .i64 0, .int .u32 0, .int .u32 0, .int .u32 0, .int .u32 0]) ?_ 0 _ rfl; (with_reducible repeat (first | refine blk_drewN ?_ _ | refine blk_drew ?_ | refine blk_alloc ?_ _)); exact BK225.out⟩
                                  have n3_ : Aside0 (Below w.heap.size w (((((w47.setCell ⟨gb225, 0, none⟩ (.int .i64 t220)).setCell ⟨gb225, 1, none⟩ (.int .u32 t221)).setCell ⟨gb225, 2, none⟩ (.int .u32 t222)).setCell ⟨gb225, 3, none⟩ (.int .u32 t223)).setCell ⟨gb225, 4, none⟩ (.int .u32 t224))) := ⟨by repeat (first | (with_reducible first | exact HB.out | apply below_alloc | apply pw_below_drewN | apply below_drew1 | refine below_set ?_ GE225.out) | exact HB.out)⟩
                                  (try clear HO_12)
                                  (try clear HO_13)
                                  (try clear BK225)
                                  (try clear HB)
                                  generalize (((((w47.setCell ⟨gb225, 0, none⟩ (.int .i64 t220)).setCell ⟨gb225, 1, none⟩ (.int .u32 t221)).setCell ⟨gb225, 2, none⟩ (.int .u32 t222)).setCell ⟨gb225, 3, none⟩ (.int .u32 t223)).setCell ⟨gb225, 4, none⟩ (.int .u32 t224)) = w49 at n0_ n1_ n2_ n3_ ⊢
                                  have HO_12 := n0_
                                  have HO_13 := n1_
                                  have BK225 := n2_
                                  have HB := n3_
                                  clear n0_ n1_ n2_ n3_
                                  have n0_ := Aside0.mk (Kd.R_drew HO_12.out)
                                  have n1_ := Aside0.mk (Kd.R_drew HO_13.out)
                                  have n2_ := Aside0.mk (blk_drew BK225.out)
                                  have n3_ := Aside0.mk (below_drew1 HB.out)
                                  clear HO_12
                                  clear HO_13
                                  clear BK225
                                  clear HB
                                  have HO_12 := n0_
                                  have HO_13 := n1_
                                  have BK225 := n2_
                                  have HB := n3_
                                  clear n0_ n1_ n2_ n3_
                                  have p231 : 0 ≤ ((ji36) : Int) := of_decide_eq_true (by first | (with_reducible assumption) | assumption)
                                  have q231 : (ji36) < (x13_2.length : Int) := of_decide_eq_true (by first | (with_reducible assumption) | assumption)
                                  obtain ⟨ad231, e231, hx231_0, hx231_1, hx231_2, hx231_3, hx231_4⟩ := at_T52 (Kd.R_reads' HO_13.out).2.2 (ji36) p231 q231
                                  cases e231
                                  replace p231 := eq_true p231
                                  replace q231 := eq_true q231
                                  have p232 : 0 ≤ ((ji36) : Int) := of_decide_eq_true (by first | (with_reducible assumption) | assumption)
                                  have q232 : (ji36) < (x13_2.length : Int) := of_decide_eq_true (by first | (with_reducible assumption) | assumption)
                                  obtain ⟨ad232, e232, hx232_0, hx232_1, hx232_2, hx232_3, hx232_4⟩ := at_T52 (Kd.R_reads' HO_13.out).2.2 (ji36) p232 q232
                                  obtain rfl : ad231 = ad232 := (by injection e232)
                                  replace p232 := eq_true p232
                                  replace q232 := eq_true q232
                                  have p234 : 0 ≤ ((ji36) : Int) := of_decide_eq_true (by first | (with_reducible assumption) | assumption)
                                  have q234 : (ji36) < (x13_2.length : Int) := of_decide_eq_true (by first | (with_reducible assumption) | assumption)
                                  obtain ⟨ad234, e234, hx234_0, hx234_1, hx234_2, hx234_3, hx234_4⟩ := at_T52 (Kd.R_reads' HO_13.out).2.2 (ji36) p234 q234
                                  obtain rfl : ad231 = ad234 := (by injection e234)
                                  replace p234 := eq_true p234
                                  replace q234 := eq_true q234
                                  refine start_ (n := 45) (S := fun w' => w'.cell? ⟨gb225, 0, none⟩ = some (.int .i64 t220) ∧ w'.cell? ⟨gb225, 1, none⟩ = some (.int .u32 t221) ∧ w'.cell? ⟨gb225, 2, none⟩ = some (.int .u32 t222) ∧ w'.cell? ⟨gb225, 3, none⟩ = some (.int .u32 t223) ∧ w'.cell? ⟨gb225, 4, none⟩ = some (.int .u32 t224) ∧ w'.cell? (ad231.add (((ji36)).toNat * 5)) = some (.int .u32 ((rd_T52 x13_2 (ji36)).f0)) ∧ w'.cell? ⟨(ad231.add (((ji36)).toNat * 5)).block, (ad231.add (((ji36)).toNat * 5)).off + 1, none⟩ = some (.int .u32 ((rd_T52 x13_2 (ji36)).f1)) ∧ w'.cell? ⟨(ad231.add (((ji36)).toNat * 5)).block, (ad231.add (((ji36)).toNat * 5)).off + 2, none⟩ = some (.int .u32 ((rd_T52 x13_2 (ji36)).f2)) ∧ w'.cell? ⟨(ad231.add (((ji36)).toNat * 5)).block, (ad231.add (((ji36)).toNat * 5)).off + 3, none⟩ = some (.int .i64 ((rd_T52 x13_2 (ji36)).f3)) ∧ w'.cell? ⟨(ad231.add (((ji36)).toNat * 5)).block, (ad231.add (((ji36)).toNat * 5)).off + 4, none⟩ = some (.bool ((rd_T52 x13_2 (ji36)).f4)) ∧ w'.cell? (ad231.add (((ji36)).toNat * 5)) = some (.int .u32 ((rd_T52 x13_2 (ji36)).f0)) ∧ w'.cell? ⟨(ad231.add (((ji36)).toNat * 5)).block, (ad231.add (((ji36)).toNat * 5)).off + 1, none⟩ = some (.int .u32 ((rd_T52 x13_2 (ji36)).f1)) ∧ w'.cell? ⟨(ad231.add (((ji36)).toNat * 5)).block, (ad231.add (((ji36)).toNat * 5)).off + 2, none⟩ = some (.int .u32 ((rd_T52 x13_2 (ji36)).f2)) ∧ w'.cell? ⟨(ad231.add (((ji36)).toNat * 5)).block, (ad231.add (((ji36)).toNat * 5)).off + 3, none⟩ = some (.int .i64 ((rd_T52 x13_2 (ji36)).f3)) ∧ w'.cell? ⟨(ad231.add (((ji36)).toNat * 5)).block, (ad231.add (((ji36)).toNat * 5)).off + 4, none⟩ = some (.bool ((rd_T52 x13_2 (ji36)).f4)) ∧ w'.cell? (ad231.add (((ji36)).toNat * 5)) = some (.int .u32 ((rd_T52 x13_2 (ji36)).f0)) ∧ w'.cell? ⟨(ad231.add (((ji36)).toNat * 5)).block, (ad231.add (((ji36)).toNat * 5)).off + 1, none⟩ = some (.int .u32 ((rd_T52 x13_2 (ji36)).f1)) ∧ w'.cell? ⟨(ad231.add (((ji36)).toNat * 5)).block, (ad231.add (((ji36)).toNat * 5)).off + 2, none⟩ = some (.int .u32 ((rd_T52 x13_2 (ji36)).f2)) ∧ w'.cell? ⟨(ad231.add (((ji36)).toNat * 5)).block, (ad231.add (((ji36)).toNat * 5)).off + 3, none⟩ = some (.int .i64 ((rd_T52 x13_2 (ji36)).f3)) ∧ w'.cell? ⟨(ad231.add (((ji36)).toNat * 5)).block, (ad231.add (((ji36)).toNat * 5)).off + 4, none⟩ = some (.bool ((rd_T52 x13_2 (ji36)).f4))) (ds := []) #[false, false, false, false, false, false, false, false, false, false, false, false, false, false, false, false, false, false, false, false, false, false, false, false, false, false, false, false, false, false, false, false, false, false, false, false, false, false, false, false, false, false, false, false, false] (by kernel_rfl) rfl rfl ⟨(blk_cell BK225.out 0).trans rfl, (blk_cell BK225.out 1).trans rfl, (blk_cell BK225.out 2).trans rfl, (blk_cell BK225.out 3).trans rfl, (blk_cell BK225.out 4).trans rfl, hx231_0, hx231_1, hx231_2, hx231_3, hx231_4, hx232_0, hx232_1, hx232_2, hx232_3, hx232_4, hx234_0, hx234_1, hx234_2, hx234_3, hx234_4⟩ (fun hHeld => ?_); refine with_tabW corrallaw9_WalkEnds.tab21 corrallaw9_WalkEnds.bits21 (fun HT_ HW_ => ?_)
                                  generalize w49.drew = w50 at HO_12 HO_13 BK225 HB hx231_0 hx231_1 hx231_2 hx231_3 hx231_4 hx232_0 hx232_1 hx232_2 hx232_3 hx232_4 hx234_0 hx234_1 hx234_2 hx234_3 hx234_4 hHeld ⊢
                                  refine pure_ (i := 0) (N := some 106) (v := ?_) (a' := ?_) #[true, false, false, false, false, false, false, false, false, false, false, false, false, false, false, false, false, false, false, false, false, false, false, false, false, false, false, false, false, false, false, false, false, false, false, false, false, false, false, false, false, false, false, false, false] rfl rfl (any_of HT_.out (by kernel_rfl)) (fun _ _ _ h => h) (Or.inl ⟨by rfl, ?_⟩) ?_ ?_
                                  rotate_left
                                  · intro w'
                                    go_simp
                                    with_reducible rfl
                                  rotate_left
                                  · simp only [Act.put, List.setIfInBounds_toArray, List.set_cons_zero, List.set_cons_succ, i64_w, i32_w]
                                    rfl
                                  refine pure_ (i := 1) (N := some 107) (v := ?_) (a' := ?_) #[true, true, false, false, false, false, false, false, false, false, false, false, false, false, false, false, false, false, false, false, false, false, false, false, false, false, false, false, false, false, false, false, false, false, false, false, false, false, false, false, false, false, false, false, false] rfl rfl (any_of HT_.out (by kernel_rfl)) (fun _ _ _ h => h) (Or.inl ⟨by rfl, ?_⟩) ?_ ?_
                                  rotate_left
                                  · intro w'
                                    go_simp
                                    with_reducible rfl
                                  rotate_left
                                  · simp only [Act.put, List.setIfInBounds_toArray, List.set_cons_zero, List.set_cons_succ, i64_w, i32_w]
                                    rfl
                                  refine pure_ (i := 2) (N := some 108) (v := ?_) (a' := ?_) #[true, true, true, false, false, false, false, false, false, false, false, false, false, false, false, false, false, false, false, false, false, false, false, false, false, false, false, false, false, false, false, false, false, false, false, false, false, false, false, false, false, false, false, false, false] rfl rfl (any_of HT_.out (by kernel_rfl)) (fun _ _ _ h => h) (Or.inl ⟨by rfl, ?_⟩) ?_ ?_
                                  rotate_left
                                  · intro w'
                                    go_simp
                                    with_reducible rfl
                                  rotate_left
                                  · simp only [Act.put, List.setIfInBounds_toArray, List.set_cons_zero, List.set_cons_succ, i64_w, i32_w]
                                    rfl
                                  refine pure_ (i := 3) (N := some 109) (v := ?_) (a' := ?_) #[true, true, true, true, false, false, false, false, false, false, false, false, false, false, false, false, false, false, false, false, false, false, false, false, false, false, false, false, false, false, false, false, false, false, false, false, false, false, false, false, false, false, false, false, false] rfl rfl (any_of HT_.out (by kernel_rfl)) (fun _ _ _ h => h) (Or.inl ⟨by rfl, ?_⟩) ?_ ?_
                                  rotate_left
                                  · intro w'
                                    go_simp
                                    with_reducible rfl
                                  rotate_left
                                  · simp only [Act.put, List.setIfInBounds_toArray, List.set_cons_zero, List.set_cons_succ, i64_w, i32_w]
                                    rfl
                                  refine pure_ (i := 4) (N := some 110) (v := ?_) (a' := ?_) #[true, true, true, true, true, false, false, false, false, false, false, false, false, false, false, false, false, false, false, false, false, false, false, false, false, false, false, false, false, false, false, false, false, false, false, false, false, false, false, false, false, false, false, false, false] rfl rfl (any_of HT_.out (by kernel_rfl)) (fun _ _ _ h => h) (Or.inl ⟨by rfl, ?_⟩) ?_ ?_
                                  rotate_left
                                  · intro w'
                                    go_simp
                                    with_reducible rfl
                                  rotate_left
                                  · simp only [Act.put, List.setIfInBounds_toArray, List.set_cons_zero, List.set_cons_succ, i64_w, i32_w]
                                    rfl
                                  refine pure_ (i := 5) (N := some 111) (v := ?_) (a' := ?_) #[true, true, true, true, true, true, false, false, false, false, false, false, false, false, false, false, false, false, false, false, false, false, false, false, false, false, false, false, false, false, false, false, false, false, false, false, false, false, false, false, false, false, false, false, false] rfl rfl (any_of HT_.out (by kernel_rfl)) (fun _ _ _ h => h) (Or.inl ⟨by rfl, ?_⟩) ?_ ?_
                                  rotate_left
                                  · intro w'
                                    go_simp
                                    with_reducible rfl
                                  rotate_left
                                  · simp only [Act.put, List.setIfInBounds_toArray, List.set_cons_zero, List.set_cons_succ, i64_w, i32_w]
                                    rfl
                                  refine pure_ (i := 6) (N := some 112) (v := ?_) (a' := ?_) #[true, true, true, true, true, true, true, false, false, false, false, false, false, false, false, false, false, false, false, false, false, false, false, false, false, false, false, false, false, false, false, false, false, false, false, false, false, false, false, false, false, false, false, false, false] rfl rfl (any_of HT_.out (by kernel_rfl)) (fun _ _ _ h => h) (Or.inl ⟨by rfl, ?_⟩) ?_ ?_
                                  rotate_left
                                  · intro w'
                                    go_simp
                                    with_reducible rfl
                                  rotate_left
                                  · simp only [Act.put, List.setIfInBounds_toArray, List.set_cons_zero, List.set_cons_succ, i64_w, i32_w]
                                    rfl
                                  refine pure_ (i := 7) (N := some 113) (v := ?_) (a' := ?_) #[true, true, true, true, true, true, true, true, false, false, false, false, false, false, false, false, false, false, false, false, false, false, false, false, false, false, false, false, false, false, false, false, false, false, false, false, false, false, false, false, false, false, false, false, false] rfl rfl (any_of HT_.out (by kernel_rfl)) (fun _ _ _ h => h) (Or.inl ⟨by rfl, ?_⟩) ?_ ?_
                                  rotate_left
                                  · intro w'
                                    go_simp
                                    with_reducible rfl
                                  rotate_left
                                  · simp only [Act.put, List.setIfInBounds_toArray, List.set_cons_zero, List.set_cons_succ, i64_w, i32_w]
                                    rfl
                                  refine pure_ (i := 8) (N := some 114) (v := ?_) (a' := ?_) #[true, true, true, true, true, true, true, true, true, false, false, false, false, false, false, false, false, false, false, false, false, false, false, false, false, false, false, false, false, false, false, false, false, false, false, false, false, false, false, false, false, false, false, false, false] rfl rfl (any_of HT_.out (by kernel_rfl)) (fun _ _ _ h => h) (Or.inl ⟨by rfl, ?_⟩) ?_ ?_
                                  rotate_left
                                  · intro w'
                                    go_simp
                                    with_reducible rfl
                                  rotate_left
                                  · simp only [Act.put, List.setIfInBounds_toArray, List.set_cons_zero, List.set_cons_succ, i64_w, i32_w]
                                    rfl
                                  refine pure_ (i := 9) (N := some 115) (v := ?_) (a' := ?_) #[true, true, true, true, true, true, true, true, true, true, false, false, false, false, false, false, false, false, false, false, false, false, false, false, false, false, false, false, false, false, false, false, false, false, false, false, false, false, false, false, false, false, false, false, false] rfl rfl (any_of HT_.out (by kernel_rfl)) (fun _ _ _ h => h) (Or.inl ⟨by rfl, ?_⟩) ?_ ?_
                                  rotate_left
                                  · intro w'
                                    go_simp
                                    with_reducible rfl
                                  rotate_left
                                  · simp only [Act.put, List.setIfInBounds_toArray, List.set_cons_zero, List.set_cons_succ, i64_w, i32_w]
                                    rfl
                                  refine pure_ (i := 10) (N := some 116) (v := ?_) (a' := ?_) #[true, true, true, true, true, true, true, true, true, true, true, false, false, false, false, false, false, false, false, false, false, false, false, false, false, false, false, false, false, false, false, false, false, false, false, false, false, false, false, false, false, false, false, false, false] rfl rfl (any_of HT_.out (by kernel_rfl)) (fun _ _ _ h => h) (Or.inl ⟨by rfl, ?_⟩) ?_ ?_
                                  rotate_left
                                  · intro w'
                                    go_simp
                                    with_reducible rfl
                                  rotate_left
                                  · simp only [Act.put, List.setIfInBounds_toArray, List.set_cons_zero, List.set_cons_succ, i64_w, i32_w]
                                    rfl
                                  refine pure_ (i := 11) (N := some 117) (v := ?_) (a' := ?_) #[true, true, true, true, true, true, true, true, true, true, true, true, false, false, false, false, false, false, false, false, false, false, false, false, false, false, false, false, false, false, false, false, false, false, false, false, false, false, false, false, false, false, false, false, false] rfl rfl (any_of HT_.out (by kernel_rfl)) (fun _ _ _ h => h) (Or.inl ⟨by rfl, ?_⟩) ?_ ?_
                                  rotate_left
                                  · intro w'
                                    go_simp
                                    with_reducible rfl
                                  rotate_left
                                  · simp only [Act.put, List.setIfInBounds_toArray, List.set_cons_zero, List.set_cons_succ, i64_w, i32_w]
                                    rfl
                                  refine pure_ (i := 12) (N := some 118) (v := ?_) (a' := ?_) #[true, true, true, true, true, true, true, true, true, true, true, true, true, false, false, false, false, false, false, false, false, false, false, false, false, false, false, false, false, false, false, false, false, false, false, false, false, false, false, false, false, false, false, false, false] rfl rfl (any_of HT_.out (by kernel_rfl)) (fun _ _ _ h => h) (Or.inl ⟨by rfl, ?_⟩) ?_ ?_
                                  rotate_left
                                  · intro w'
                                    go_simp
                                    with_reducible rfl
                                  rotate_left
                                  · simp only [Act.put, List.setIfInBounds_toArray, List.set_cons_zero, List.set_cons_succ, i64_w, i32_w]
                                    rfl
                                  refine pure_ (i := 13) (N := some 119) (v := ?_) (a' := ?_) #[true, true, true, true, true, true, true, true, true, true, true, true, true, true, false, false, false, false, false, false, false, false, false, false, false, false, false, false, false, false, false, false, false, false, false, false, false, false, false, false, false, false, false, false, false] rfl rfl (any_of HT_.out (by kernel_rfl)) (fun _ _ _ h => h) (Or.inl ⟨by rfl, ?_⟩) ?_ ?_
                                  rotate_left
                                  · intro w'
                                    go_simp
                                    with_reducible rfl
                                  rotate_left
                                  · simp only [Act.put, List.setIfInBounds_toArray, List.set_cons_zero, List.set_cons_succ, i64_w, i32_w]
                                    rfl
                                  refine pure_ (i := 15) (N := some 121) (v := ?_) (a' := ?_) #[true, true, true, true, true, true, true, true, true, true, true, true, true, true, false, true, false, false, false, false, false, false, false, false, false, false, false, false, false, false, false, false, false, false, false, false, false, false, false, false, false, false, false, false, false] rfl rfl (any_of HT_.out (by kernel_rfl)) (fun _ _ _ h => h) (Or.inl ⟨by rfl, ?_⟩) ?_ ?_
                                  rotate_left
                                  · intro w'
                                    go_simp
                                    with_reducible rfl
                                  rotate_left
                                  · simp only [Act.put, List.setIfInBounds_toArray, List.set_cons_zero, List.set_cons_succ, i64_w, i32_w]
                                    rfl
                                  refine take_ (i := 14) (N := some 120) (v := ?_) (a' := ?_) #[true, true, true, true, true, true, true, true, true, true, true, true, true, true, true, true, false, false, false, false, false, false, false, false, false, false, false, false, false, false, false, false, false, false, false, false, false, false, false, false, false, false, false, false, false] rfl rfl (take_ofW HT_.out HW_.out (by kernel_rfl)) (fun _ _ _ h => h) (Or.inl ⟨by rfl, ?_⟩) hHeld ?_ ?_
                                  rotate_left
                                  · rintro w' ⟨s0, s1, s2, s3, s4, s5, s6, s7, s8, s9, s10, s11, s12, s13, s14, s15, s16, s17, s18, s19⟩
                                    go_simp
                                    with_reducible rfl
                                  rotate_left
                                  · simp only [Act.put, List.setIfInBounds_toArray, List.set_cons_zero, List.set_cons_succ, i64_w, i32_w]
                                    rfl
                                  refine take_ (i := 16) (N := some 122) (v := ?_) (a' := ?_) #[true, true, true, true, true, true, true, true, true, true, true, true, true, true, true, true, true, false, false, false, false, false, false, false, false, false, false, false, false, false, false, false, false, false, false, false, false, false, false, false, false, false, false, false, false] rfl rfl (take_ofW HT_.out HW_.out (by kernel_rfl)) (fun _ _ _ h => h) (Or.inl ⟨by rfl, ?_⟩) hHeld ?_ ?_
                                  rotate_left
                                  · rintro w' ⟨s0, s1, s2, s3, s4, s5, s6, s7, s8, s9, s10, s11, s12, s13, s14, s15, s16, s17, s18, s19⟩
                                    go_simp
                                    with_reducible rfl
                                  rotate_left
                                  · simp only [Act.put, List.setIfInBounds_toArray, List.set_cons_zero, List.set_cons_succ, i64_w, i32_w]
                                    rfl
                                  refine pure_ (i := 17) (N := some 123) (v := ?_) (a' := ?_) #[true, true, true, true, true, true, true, true, true, true, true, true, true, true, true, true, true, true, false, false, false, false, false, false, false, false, false, false, false, false, false, false, false, false, false, false, false, false, false, false, false, false, false, false, false] rfl rfl (any_of HT_.out (by kernel_rfl)) (fun _ _ _ h => h) (Or.inl ⟨by rfl, ?_⟩) ?_ ?_
                                  rotate_left
                                  · intro w'
                                    go_simp
                                    with_reducible rfl
                                  rotate_left
                                  · simp only [Act.put, List.setIfInBounds_toArray, List.set_cons_zero, List.set_cons_succ, i64_w, i32_w]
                                    rfl
                                  refine pure_ (i := 18) (N := some 124) (v := ?_) (a' := ?_) #[true, true, true, true, true, true, true, true, true, true, true, true, true, true, true, true, true, true, true, false, false, false, false, false, false, false, false, false, false, false, false, false, false, false, false, false, false, false, false, false, false, false, false, false, false] rfl rfl (any_of HT_.out (by kernel_rfl)) (fun _ _ _ h => h) (Or.inl ⟨by rfl, ?_⟩) ?_ ?_
                                  rotate_left
                                  · intro w'
                                    go_simp
                                    with_reducible rfl
                                  rotate_left
                                  · simp only [Act.put, List.setIfInBounds_toArray, List.set_cons_zero, List.set_cons_succ, i64_w, i32_w]
                                    rfl
                                  refine pure_ (i := 19) (N := some 125) (v := ?_) (a' := ?_) #[true, true, true, true, true, true, true, true, true, true, true, true, true, true, true, true, true, true, true, true, false, false, false, false, false, false, false, false, false, false, false, false, false, false, false, false, false, false, false, false, false, false, false, false, false] rfl rfl (any_of HT_.out (by kernel_rfl)) (fun _ _ _ h => h) (Or.inl ⟨by rfl, ?_⟩) ?_ ?_
                                  rotate_left
                                  · intro w'
                                    go_simp
                                    with_reducible rfl
                                  rotate_left
                                  · simp only [Act.put, List.setIfInBounds_toArray, List.set_cons_zero, List.set_cons_succ, i64_w, i32_w]
                                    rfl
                                  refine pure_ (i := 20) (N := some 126) (v := ?_) (a' := ?_) #[true, true, true, true, true, true, true, true, true, true, true, true, true, true, true, true, true, true, true, true, true, false, false, false, false, false, false, false, false, false, false, false, false, false, false, false, false, false, false, false, false, false, false, false, false] rfl rfl (any_of HT_.out (by kernel_rfl)) (fun _ _ _ h => h) (Or.inl ⟨by rfl, ?_⟩) ?_ ?_
                                  rotate_left
                                  · intro w'
                                    go_simp
                                    with_reducible rfl
                                  rotate_left
                                  · simp only [Act.put, List.setIfInBounds_toArray, List.set_cons_zero, List.set_cons_succ, i64_w, i32_w]
                                    rfl
                                  refine pure_ (i := 22) (N := some 128) (v := ?_) (a' := ?_) #[true, true, true, true, true, true, true, true, true, true, true, true, true, true, true, true, true, true, true, true, true, false, true, false, false, false, false, false, false, false, false, false, false, false, false, false, false, false, false, false, false, false, false, false, false] rfl rfl (any_of HT_.out (by kernel_rfl)) (fun _ _ _ h => h) (Or.inl ⟨by rfl, ?_⟩) ?_ ?_
                                  rotate_left
                                  · intro w'
                                    go_simp
                                    with_reducible rfl
                                  rotate_left
                                  · simp only [Act.put, List.setIfInBounds_toArray, List.set_cons_zero, List.set_cons_succ, i64_w, i32_w]
                                    rfl
                                  refine pure_ (i := 23) (N := some 129) (v := ?_) (a' := ?_) #[true, true, true, true, true, true, true, true, true, true, true, true, true, true, true, true, true, true, true, true, true, false, true, true, false, false, false, false, false, false, false, false, false, false, false, false, false, false, false, false, false, false, false, false, false] rfl rfl (any_of HT_.out (by kernel_rfl)) (fun _ _ _ h => h) (Or.inl ⟨by rfl, ?_⟩) ?_ ?_
                                  rotate_left
                                  · intro w'
                                    go_simp
                                    with_reducible rfl
                                  rotate_left
                                  · simp only [Act.put, List.setIfInBounds_toArray, List.set_cons_zero, List.set_cons_succ, i64_w, i32_w]
                                    rfl
                                  refine pure_ (i := 24) (N := some 130) (v := ?_) (a' := ?_) #[true, true, true, true, true, true, true, true, true, true, true, true, true, true, true, true, true, true, true, true, true, false, true, true, true, false, false, false, false, false, false, false, false, false, false, false, false, false, false, false, false, false, false, false, false] rfl rfl (any_of HT_.out (by kernel_rfl)) (fun _ _ _ h => h) (Or.inl ⟨by rfl, ?_⟩) ?_ ?_
                                  rotate_left
                                  · intro w'
                                    go_simp
                                    with_reducible rfl
                                  rotate_left
                                  · simp only [Act.put, List.setIfInBounds_toArray, List.set_cons_zero, List.set_cons_succ, i64_w, i32_w]
                                    rfl
                                  refine pure_ (i := 25) (N := some 131) (v := ?_) (a' := ?_) #[true, true, true, true, true, true, true, true, true, true, true, true, true, true, true, true, true, true, true, true, true, false, true, true, true, true, false, false, false, false, false, false, false, false, false, false, false, false, false, false, false, false, false, false, false] rfl rfl (any_of HT_.out (by kernel_rfl)) (fun _ _ _ h => h) (Or.inl ⟨by rfl, ?_⟩) ?_ ?_
                                  rotate_left
                                  · intro w'
                                    go_simp
                                    with_reducible rfl
                                  rotate_left
                                  · simp only [Act.put, List.setIfInBounds_toArray, List.set_cons_zero, List.set_cons_succ, i64_w, i32_w]
                                    rfl
                                  refine pure_ (i := 26) (N := some 132) (v := ?_) (a' := ?_) #[true, true, true, true, true, true, true, true, true, true, true, true, true, true, true, true, true, true, true, true, true, false, true, true, true, true, true, false, false, false, false, false, false, false, false, false, false, false, false, false, false, false, false, false, false] rfl rfl (any_of HT_.out (by kernel_rfl)) (fun _ _ _ h => h) (Or.inl ⟨by rfl, ?_⟩) ?_ ?_
                                  rotate_left
                                  · intro w'
                                    go_simp
                                    with_reducible rfl
                                  rotate_left
                                  · simp only [Act.put, List.setIfInBounds_toArray, List.set_cons_zero, List.set_cons_succ, i64_w, i32_w]
                                    rfl
                                  refine pure_ (i := 27) (N := some 133) (v := ?_) (a' := ?_) #[true, true, true, true, true, true, true, true, true, true, true, true, true, true, true, true, true, true, true, true, true, false, true, true, true, true, true, true, false, false, false, false, false, false, false, false, false, false, false, false, false, false, false, false, false] rfl rfl (any_of HT_.out (by kernel_rfl)) (fun _ _ _ h => h) (Or.inl ⟨by rfl, ?_⟩) ?_ ?_
                                  rotate_left
                                  · intro w'
                                    go_simp
                                    with_reducible rfl
                                  rotate_left
                                  · simp only [Act.put, List.setIfInBounds_toArray, List.set_cons_zero, List.set_cons_succ, i64_w, i32_w]
                                    rfl
                                  refine pure_ (i := 29) (N := some 135) (v := ?_) (a' := ?_) #[true, true, true, true, true, true, true, true, true, true, true, true, true, true, true, true, true, true, true, true, true, false, true, true, true, true, true, true, false, true, false, false, false, false, false, false, false, false, false, false, false, false, false, false, false] rfl rfl (any_of HT_.out (by kernel_rfl)) (fun _ _ _ h => h) (Or.inl ⟨by rfl, ?_⟩) ?_ ?_
                                  rotate_left
                                  · intro w'
                                    go_simp
                                    with_reducible rfl
                                  rotate_left
                                  · simp only [Act.put, List.setIfInBounds_toArray, List.set_cons_zero, List.set_cons_succ, i64_w, i32_w]
                                    rfl
                                  refine take_ (i := 21) (N := some 127) (v := ?_) (a' := ?_) #[true, true, true, true, true, true, true, true, true, true, true, true, true, true, true, true, true, true, true, true, true, true, true, true, true, true, true, true, false, true, false, false, false, false, false, false, false, false, false, false, false, false, false, false, false] rfl rfl (take_ofW HT_.out HW_.out (by kernel_rfl)) (fun _ _ _ h => h) (Or.inl ⟨by rfl, ?_⟩) hHeld ?_ ?_
                                  rotate_left
                                  · rintro w' ⟨s0, s1, s2, s3, s4, s5, s6, s7, s8, s9, s10, s11, s12, s13, s14, s15, s16, s17, s18, s19⟩
                                    go_simp
                                    with_reducible rfl
                                  rotate_left
                                  · simp only [Act.put, List.setIfInBounds_toArray, List.set_cons_zero, List.set_cons_succ, i64_w, i32_w]
                                    rfl
                                  refine take_ (i := 28) (N := some 134) (v := ?_) (a' := ?_) #[true, true, true, true, true, true, true, true, true, true, true, true, true, true, true, true, true, true, true, true, true, true, true, true, true, true, true, true, true, true, false, false, false, false, false, false, false, false, false, false, false, false, false, false, false] rfl rfl (take_ofW HT_.out HW_.out (by kernel_rfl)) (fun _ _ _ h => h) (Or.inl ⟨by rfl, ?_⟩) hHeld ?_ ?_
                                  rotate_left
                                  · rintro w' ⟨s0, s1, s2, s3, s4, s5, s6, s7, s8, s9, s10, s11, s12, s13, s14, s15, s16, s17, s18, s19⟩
                                    go_simp
                                    with_reducible rfl
                                  rotate_left
                                  · simp only [Act.put, List.setIfInBounds_toArray, List.set_cons_zero, List.set_cons_succ, i64_w, i32_w]
                                    rfl
                                  refine one_ (i := 30) (N := some 136) #[true, true, true, true, true, true, true, true, true, true, true, true, true, true, true, true, true, true, true, true, true, true, true, true, true, true, true, true, true, true, true, false, false, false, false, false, false, false, false, false, false, false, false, false, false] rfl rfl (one_of HT_.out (by kernel_rfl)) (by decide) (fun K hK => ?_)
                                  refine goes_ Try.func23 (by kernel_rfl) rfl #[.int .u32 ((rd_T52 x13_2 (ji36)).f1), .int .i64 a4] (by rfl) rfl rfl (by (try simp only [List.map_toArray, List.map_cons, List.map_nil]); first | done | (simp only [hji36]; rfl) | rfl | (simp only [List.length_drop, List.length_take]; rfl)) ?_
                                  with_reducible refine (pte_Needs.calls ((rd_T52 x13_2 (ji36)).f1) a4 t233 _ A40.out).mono ?_
                                  rintro e w' ⟨rfl, ⟨nd, rfl⟩⟩
                                  refine ⟨_, rfl, ?_⟩
                                  refine hK.out _ _ ⟨(blk_cell BK225.out 0).trans rfl, (blk_cell BK225.out 1).trans rfl, (blk_cell BK225.out 2).trans rfl, (blk_cell BK225.out 3).trans rfl, (blk_cell BK225.out 4).trans rfl, hHeld.2.2.2.2.2.1, hHeld.2.2.2.2.2.2.1, hHeld.2.2.2.2.2.2.2.1, hHeld.2.2.2.2.2.2.2.2.1, hHeld.2.2.2.2.2.2.2.2.2.1, hHeld.2.2.2.2.2.2.2.2.2.2.1, hHeld.2.2.2.2.2.2.2.2.2.2.2.1, hHeld.2.2.2.2.2.2.2.2.2.2.2.2.1, hHeld.2.2.2.2.2.2.2.2.2.2.2.2.2.1, hHeld.2.2.2.2.2.2.2.2.2.2.2.2.2.2.1, hHeld.2.2.2.2.2.2.2.2.2.2.2.2.2.2.2.1, hHeld.2.2.2.2.2.2.2.2.2.2.2.2.2.2.2.2.1, hHeld.2.2.2.2.2.2.2.2.2.2.2.2.2.2.2.2.2.1, hHeld.2.2.2.2.2.2.2.2.2.2.2.2.2.2.2.2.2.2.1, hHeld.2.2.2.2.2.2.2.2.2.2.2.2.2.2.2.2.2.2.2⟩ (fun hHeld => ?_)
                                  clear hK K
                                  refine norm_ (a' := ?_) ?_ ?_
                                  rotate_left
                                  · show Act.put _ (some 136) _ = _
                                    simp only [Act.put, List.setIfInBounds_toArray, List.set_cons_zero, List.set_cons_succ, i64_w, i32_w]
                                    rfl
                                  refine pure_ (i := 31) (N := some 137) (v := ?_) (a' := ?_) #[true, true, true, true, true, true, true, true, true, true, true, true, true, true, true, true, true, true, true, true, true, true, true, true, true, true, true, true, true, true, true, true, false, false, false, false, false, false, false, false, false, false, false, false, false] rfl rfl (any_of HT_.out (by kernel_rfl)) (fun _ _ _ h => h) (Or.inl ⟨by rfl, ?_⟩) ?_ ?_
                                  rotate_left
                                  · intro w'
                                    go_simp
                                    with_reducible rfl
                                  rotate_left
                                  · simp only [Act.put, List.setIfInBounds_toArray, List.set_cons_zero, List.set_cons_succ, i64_w, i32_w]
                                    rfl
                                  refine pure_ (i := 32) (N := some 138) (v := ?_) (a' := ?_) #[true, true, true, true, true, true, true, true, true, true, true, true, true, true, true, true, true, true, true, true, true, true, true, true, true, true, true, true, true, true, true, true, true, false, false, false, false, false, false, false, false, false, false, false, false] rfl rfl (any_of HT_.out (by kernel_rfl)) (fun _ _ _ h => h) (Or.inl ⟨by rfl, ?_⟩) ?_ ?_
                                  rotate_left
                                  · intro w'
                                    go_simp
                                    with_reducible rfl
                                  rotate_left
                                  · simp only [Act.put, List.setIfInBounds_toArray, List.set_cons_zero, List.set_cons_succ, i64_w, i32_w]
                                    rfl
                                  refine pure_ (i := 33) (N := some 139) (v := ?_) (a' := ?_) #[true, true, true, true, true, true, true, true, true, true, true, true, true, true, true, true, true, true, true, true, true, true, true, true, true, true, true, true, true, true, true, true, true, true, false, false, false, false, false, false, false, false, false, false, false] rfl rfl (any_of HT_.out (by kernel_rfl)) (fun _ _ _ h => h) (Or.inl ⟨by rfl, ?_⟩) ?_ ?_
                                  rotate_left
                                  · intro w'
                                    go_simp
                                    with_reducible rfl
                                  rotate_left
                                  · simp only [Act.put, List.setIfInBounds_toArray, List.set_cons_zero, List.set_cons_succ, i64_w, i32_w]
                                    rfl
                                  refine pure_ (i := 34) (N := some 140) (v := ?_) (a' := ?_) #[true, true, true, true, true, true, true, true, true, true, true, true, true, true, true, true, true, true, true, true, true, true, true, true, true, true, true, true, true, true, true, true, true, true, true, false, false, false, false, false, false, false, false, false, false] rfl rfl (any_of HT_.out (by kernel_rfl)) (fun _ _ _ h => h) (Or.inl ⟨by rfl, ?_⟩) ?_ ?_
                                  rotate_left
                                  · intro w'
                                    go_simp
                                    with_reducible rfl
                                  rotate_left
                                  · simp only [Act.put, List.setIfInBounds_toArray, List.set_cons_zero, List.set_cons_succ, i64_w, i32_w]
                                    rfl
                                  refine pure_ (i := 36) (N := some 142) (v := ?_) (a' := ?_) #[true, true, true, true, true, true, true, true, true, true, true, true, true, true, true, true, true, true, true, true, true, true, true, true, true, true, true, true, true, true, true, true, true, true, true, false, true, false, false, false, false, false, false, false, false] rfl rfl (any_of HT_.out (by kernel_rfl)) (fun _ _ _ h => h) (Or.inl ⟨by rfl, ?_⟩) ?_ ?_
                                  rotate_left
                                  · intro w'
                                    go_simp
                                    with_reducible rfl
                                  rotate_left
                                  · simp only [Act.put, List.setIfInBounds_toArray, List.set_cons_zero, List.set_cons_succ, i64_w, i32_w]
                                    rfl
                                  refine pure_ (i := 37) (N := some 143) (v := ?_) (a' := ?_) #[true, true, true, true, true, true, true, true, true, true, true, true, true, true, true, true, true, true, true, true, true, true, true, true, true, true, true, true, true, true, true, true, true, true, true, false, true, true, false, false, false, false, false, false, false] rfl rfl (any_of HT_.out (by kernel_rfl)) (fun _ _ _ h => h) (Or.inl ⟨by rfl, ?_⟩) ?_ ?_
                                  rotate_left
                                  · intro w'
                                    go_simp
                                    with_reducible rfl
                                  rotate_left
                                  · simp only [Act.put, List.setIfInBounds_toArray, List.set_cons_zero, List.set_cons_succ, i64_w, i32_w]
                                    rfl
                                  refine pure_ (i := 38) (N := some 144) (v := ?_) (a' := ?_) #[true, true, true, true, true, true, true, true, true, true, true, true, true, true, true, true, true, true, true, true, true, true, true, true, true, true, true, true, true, true, true, true, true, true, true, false, true, true, true, false, false, false, false, false, false] rfl rfl (any_of HT_.out (by kernel_rfl)) (fun _ _ _ h => h) (Or.inl ⟨by rfl, ?_⟩) ?_ ?_
                                  rotate_left
                                  · intro w'
                                    go_simp
                                    with_reducible rfl
                                  rotate_left
                                  · simp only [Act.put, List.setIfInBounds_toArray, List.set_cons_zero, List.set_cons_succ, i64_w, i32_w]
                                    rfl
                                  refine pure_ (i := 39) (N := some 145) (v := ?_) (a' := ?_) #[true, true, true, true, true, true, true, true, true, true, true, true, true, true, true, true, true, true, true, true, true, true, true, true, true, true, true, true, true, true, true, true, true, true, true, false, true, true, true, true, false, false, false, false, false] rfl rfl (any_of HT_.out (by kernel_rfl)) (fun _ _ _ h => h) (Or.inl ⟨by rfl, ?_⟩) ?_ ?_
                                  rotate_left
                                  · intro w'
                                    go_simp
                                    with_reducible rfl
                                  rotate_left
                                  · simp only [Act.put, List.setIfInBounds_toArray, List.set_cons_zero, List.set_cons_succ, i64_w, i32_w]
                                    rfl
                                  refine pure_ (i := 40) (N := some 146) (v := ?_) (a' := ?_) #[true, true, true, true, true, true, true, true, true, true, true, true, true, true, true, true, true, true, true, true, true, true, true, true, true, true, true, true, true, true, true, true, true, true, true, false, true, true, true, true, true, false, false, false, false] rfl rfl (any_of HT_.out (by kernel_rfl)) (fun _ _ _ h => h) (Or.inl ⟨by rfl, ?_⟩) ?_ ?_
                                  rotate_left
                                  · intro w'
                                    go_simp
                                    with_reducible rfl
                                  rotate_left
                                  · simp only [Act.put, List.setIfInBounds_toArray, List.set_cons_zero, List.set_cons_succ, i64_w, i32_w]
                                    rfl
                                  refine pure_ (i := 41) (N := some 147) (v := ?_) (a' := ?_) #[true, true, true, true, true, true, true, true, true, true, true, true, true, true, true, true, true, true, true, true, true, true, true, true, true, true, true, true, true, true, true, true, true, true, true, false, true, true, true, true, true, true, false, false, false] rfl rfl (any_of HT_.out (by kernel_rfl)) (fun _ _ _ h => h) (Or.inl ⟨by rfl, ?_⟩) ?_ ?_
                                  rotate_left
                                  · intro w'
                                    go_simp
                                    with_reducible rfl
                                  rotate_left
                                  · simp only [Act.put, List.setIfInBounds_toArray, List.set_cons_zero, List.set_cons_succ, i64_w, i32_w]
                                    rfl
                                  refine take_ (i := 35) (N := some 141) (v := ?_) (a' := ?_) #[true, true, true, true, true, true, true, true, true, true, true, true, true, true, true, true, true, true, true, true, true, true, true, true, true, true, true, true, true, true, true, true, true, true, true, true, true, true, true, true, true, true, false, false, false] rfl rfl (take_ofW HT_.out HW_.out (by kernel_rfl)) (fun _ _ _ h => h) (Or.inl ⟨by rfl, ?_⟩) hHeld ?_ ?_
                                  rotate_left
                                  · rintro w' ⟨s0, s1, s2, s3, s4, s5, s6, s7, s8, s9, s10, s11, s12, s13, s14, s15, s16, s17, s18, s19⟩
                                    go_simp
                                    with_reducible rfl
                                  rotate_left
                                  · simp only [Act.put, List.setIfInBounds_toArray, List.set_cons_zero, List.set_cons_succ, i64_w, i32_w]
                                    rfl
                                  refine take_ (i := 42) (N := some 148) (v := ?_) (a' := ?_) #[true, true, true, true, true, true, true, true, true, true, true, true, true, true, true, true, true, true, true, true, true, true, true, true, true, true, true, true, true, true, true, true, true, true, true, true, true, true, true, true, true, true, true, false, false] rfl rfl (take_ofW HT_.out HW_.out (by kernel_rfl)) (fun _ _ _ h => h) (Or.inl ⟨by rfl, ?_⟩) hHeld ?_ ?_
                                  rotate_left
                                  · rintro w' ⟨s0, s1, s2, s3, s4, s5, s6, s7, s8, s9, s10, s11, s12, s13, s14, s15, s16, s17, s18, s19⟩
                                    go_simp
                                    with_reducible rfl
                                  rotate_left
                                  · simp only [Act.put, List.setIfInBounds_toArray, List.set_cons_zero, List.set_cons_succ, i64_w, i32_w]
                                    rfl
                                  refine pure_ (i := 43) (N := some 149) (v := ?_) (a' := ?_) #[true, true, true, true, true, true, true, true, true, true, true, true, true, true, true, true, true, true, true, true, true, true, true, true, true, true, true, true, true, true, true, true, true, true, true, true, true, true, true, true, true, true, true, true, false] rfl rfl (any_of HT_.out (by kernel_rfl)) (fun _ _ _ h => h) (Or.inl ⟨by rfl, ?_⟩) ?_ ?_
                                  rotate_left
                                  · intro w'
                                    go_simp
                                    with_reducible rfl
                                  rotate_left
                                  · simp only [Act.put, List.setIfInBounds_toArray, List.set_cons_zero, List.set_cons_succ, i64_w, i32_w]
                                    rfl
                                  refine pure_ (i := 44) (N := some 150) (v := ?_) (a' := ?_) #[true, true, true, true, true, true, true, true, true, true, true, true, true, true, true, true, true, true, true, true, true, true, true, true, true, true, true, true, true, true, true, true, true, true, true, true, true, true, true, true, true, true, true, true, true] rfl rfl (any_of HT_.out (by kernel_rfl)) (fun _ _ _ h => h) (Or.inl ⟨by rfl, ?_⟩) ?_ ?_
                                  rotate_left
                                  · intro w'
                                    go_simp
                                    with_reducible rfl
                                  rotate_left
                                  · simp only [Act.put, List.setIfInBounds_toArray, List.set_cons_zero, List.set_cons_succ, i64_w, i32_w]
                                    rfl
                                  refine done_ (done_of HT_.out (by kernel_rfl)) ?_
                                  have hcz51_0 : w50.cell? ⟨gb225, 0, none⟩ = some (.int .i64 t220) := (blk_cell BK225.out 0).trans rfl
                                  have hcz51_1 : w50.cell? ⟨gb225, 1, none⟩ = some (.int .u32 t221) := (blk_cell BK225.out 1).trans rfl
                                  have hcz51_2 : w50.cell? ⟨gb225, 2, none⟩ = some (.int .u32 t222) := (blk_cell BK225.out 2).trans rfl
                                  have hcz51_3 : w50.cell? ⟨gb225, 3, none⟩ = some (.int .u32 t223) := (blk_cell BK225.out 3).trans rfl
                                  have hcz51_4 : w50.cell? ⟨gb225, 4, none⟩ = some (.int .u32 t224) := (blk_cell BK225.out 4).trans rfl
                                  have hfz51_0 := blk_frozen BK225.out 0
                                  have hfz51_1 := blk_frozen BK225.out 1
                                  have hfz51_2 := blk_frozen BK225.out 2
                                  have hfz51_3 := blk_frozen BK225.out 3
                                  have hfz51_4 := blk_frozen BK225.out 4
                                  have p43 : 0 ≤ ((ji36) : Int) := of_decide_eq_true (by first | (with_reducible assumption) | assumption)
                                  have q43 : ((ji36) : Int) < ((x13_2.length : Int) : Int) := of_decide_eq_true (by first | (with_reducible assumption) | assumption)
                                  obtain ⟨go43, co43, eo43, gb43, gl43, cl43, HG43⟩ := Kd.R_form HO_13.out (by omega)
                                  (first | cases eo43 | (injection eo43 with ea_ en_ ec_; (first | subst ea_ | (injection ea_ with ea_; subst ea_)); subst ec_; clear en_))
                                  have GB43 := Aside0.mk gb43
                                  have GG43 := Aside0.mk HG43
                                  clear gb43 gl43 HG43
                                  (first | simp only [add_plain] at hx231_0 | skip)
                                  (first | simp only [add_plain] at hx231_1 | skip)
                                  (first | simp only [add_plain] at hx231_2 | skip)
                                  (first | simp only [add_plain] at hx231_3 | skip)
                                  (first | simp only [add_plain] at hx231_4 | skip)
                                  (first | simp only [add_plain] at hx232_0 | skip)
                                  (first | simp only [add_plain] at hx232_1 | skip)
                                  (first | simp only [add_plain] at hx232_2 | skip)
                                  (first | simp only [add_plain] at hx232_3 | skip)
                                  (first | simp only [add_plain] at hx232_4 | skip)
                                  (first | simp only [add_plain] at hx234_0 | skip)
                                  (first | simp only [add_plain] at hx234_1 | skip)
                                  (first | simp only [add_plain] at hx234_2 | skip)
                                  (first | simp only [add_plain] at hx234_3 | skip)
                                  (first | simp only [add_plain] at hx234_4 | skip)
                                  obtain ⟨ce43, hcl43, hM43, hcc43, hfr43⟩ := Kd.R_elem HO_13.out z52 ((ji36) : Int) p43 q43
                                  obtain rfl := k52_openM hM43
                                  have hx43_0 : w50.cell? ⟨go43, ((ji36) : Int).toNat * 5, none⟩ = some (.int .u32 ((rd_T52 x13_2 (ji36)).f0)) := hcc43 0 _ rfl
                                  have hx43_1 : w50.cell? ⟨go43, ((ji36) : Int).toNat * 5 + 1, none⟩ = some (.int .u32 ((rd_T52 x13_2 (ji36)).f1)) := hcc43 1 _ rfl
                                  have hx43_2 : w50.cell? ⟨go43, ((ji36) : Int).toNat * 5 + 2, none⟩ = some (.int .u32 ((rd_T52 x13_2 (ji36)).f2)) := hcc43 2 _ rfl
                                  have hx43_3 : w50.cell? ⟨go43, ((ji36) : Int).toNat * 5 + 3, none⟩ = some (.int .i64 ((rd_T52 x13_2 (ji36)).f3)) := hcc43 3 _ rfl
                                  have hx43_4 : w50.cell? ⟨go43, ((ji36) : Int).toNat * 5 + 4, none⟩ = some (.bool ((rd_T52 x13_2 (ji36)).f4)) := hcc43 4 _ rfl
                                  have hf43_0 : w50.frozen? ⟨go43, ((ji36) : Int).toNat * 5, none⟩ = false := hfr43 0
                                  have hf43_1 : w50.frozen? ⟨go43, ((ji36) : Int).toNat * 5 + 1, none⟩ = false := hfr43 1
                                  have hf43_2 : w50.frozen? ⟨go43, ((ji36) : Int).toNat * 5 + 2, none⟩ = false := hfr43 2
                                  have hf43_3 : w50.frozen? ⟨go43, ((ji36) : Int).toNat * 5 + 3, none⟩ = false := hfr43 3
                                  have hf43_4 : w50.frozen? ⟨go43, ((ji36) : Int).toNat * 5 + 4, none⟩ = false := hfr43 4
                                  clear hcl43 hcc43 hfr43 hM43
                                  replace p43 := eq_true p43
                                  replace q43 := eq_true q43
                                  have HO_12 := Aside0.mk (show Kd.R (Kd.int .u32) 23 (w50.drewN nd) w.heap.size (fun _ => True) _ _ from by apply Kd.R_drewN; exact HO_12.out)
                                  have HO_13 := Aside0.mk (show Kd.R k52 52 (w50.drewN nd) w.heap.size (fun _ => True) _ _ from by apply Kd.R_drewN; exact HO_13.out)
                                  have BK225 := Aside0.mk (blk_drewN BK225.out nd)
                                  have HB := Aside0.mk (show Below w.heap.size w (w50.drewN nd) from by apply pw_below_drewN; exact HB.out)
                                  generalize w50.drewN nd = w_q at HO_12 HO_13 BK225 HB ⊢
                                  have hcq_0 : w_q.cell? ⟨gb225, 0, none⟩ = some (.int .i64 t220) := (blk_cell BK225.out 0).trans rfl
                                  have hfq_0 := blk_frozen BK225.out 0
                                  have hcq_1 : w_q.cell? ⟨gb225, 1, none⟩ = some (.int .u32 t221) := (blk_cell BK225.out 1).trans rfl
                                  have hfq_1 := blk_frozen BK225.out 1
                                  have hcq_2 : w_q.cell? ⟨gb225, 2, none⟩ = some (.int .u32 t222) := (blk_cell BK225.out 2).trans rfl
                                  have hfq_2 := blk_frozen BK225.out 2
                                  have hcq_3 : w_q.cell? ⟨gb225, 3, none⟩ = some (.int .u32 t223) := (blk_cell BK225.out 3).trans rfl
                                  have hfq_3 := blk_frozen BK225.out 3
                                  have hcq_4 : w_q.cell? ⟨gb225, 4, none⟩ = some (.int .u32 t224) := (blk_cell BK225.out 4).trans rfl
                                  have hfq_4 := blk_frozen BK225.out 4
                                  have HX52 := Aside0.mk (show Kd.R k52 52 w_q w.heap.size (fun _ => True) (.slice (some ⟨go43, 0, none⟩) x13_2.length co45) x13_2 from (by (with_reducible repeat (first | apply Kd.R_alloc | apply Kd.R_drewN | apply Kd.R_drew)); exact HO_13.out))
                                  obtain ⟨ce52, hcl52, hM52, hcc52, hfr52⟩ := Kd.R_elem HX52.out z52 ((ji36) : Int) (of_decide_eq_true (by first | (with_reducible assumption) | assumption)) (by have h_ : ((ji36) : Int) < ((x13_2.length : Int) : Int) := of_decide_eq_true (by first | (with_reducible assumption) | assumption); first | exact h_ | (have e_ := (Kd.R_reads' HO_13.out).1; omega) | simpa using h_)
                                  obtain rfl := k52_openM hM52
                                  have HP52 := Kd.R_seg HX52.out ((ji36) : Int) (of_decide_eq_true (by first | (with_reducible assumption) | assumption)) (by have h_ : ((ji36) : Int) < ((x13_2.length : Int) : Int) := of_decide_eq_true (by first | (with_reducible assumption) | assumption); first | exact h_ | (have e_ := (Kd.R_reads' HO_13.out).1; omega) | simpa using h_) (seg := [.int .u32 t223]) (j := 1) hcl52 hcc52 (show 2 ≤ 5 from by decide) (x' := (⟨(rd_T52 x13_2 (ji36)).f0, t223, (rd_T52 x13_2 (ji36)).f2, (rd_T52 x13_2 (ji36)).f3, (rd_T52 x13_2 (ji36)).f4⟩ : S52)) (k52_mkM _ _ _ (⟨(rd_T52 x13_2 (ji36)).f0, t223, (rd_T52 x13_2 (ji36)).f2, (rd_T52 x13_2 (ji36)).f3, (rd_T52 x13_2 (ji36)).f4⟩ : S52) ) (fun _ hk => hk)
                                  have hx52_1 := hcc52 1 _ rfl
                                  (try simp only [show (k52).sz = 5 from rfl, Nat.mul_one, Nat.add_zero] at hx52_1)
                                  have hf52_1 := hfr52 1
                                  (try simp only [show (k52).sz = 5 from rfl, Nat.mul_one, Nat.add_zero] at hf52_1)
                                  clear hcl52 hcc52 hfr52 hM52
                                  try go_wp2_with (first | ((with_reducible refine gate_store (t := 23) (p := 158) rfl ?_); refine store_event (t := 23) (p := 158) (v := ?vo_w53) (w1 := (w_q.setCell ⟨go43, ((ji36) : Int).toNat * 5 + 1, none⟩ (.int .u32 t223))) ?hg ?ho ?hn ?hr ?_; (case ho => rfl); (case hg => rfl); (case hn => rfl); (case hr => first | (go_simp; done) | (go_simp; rfl)); intro w53 hw; have hg : w_q.grownBy w53 (some go43) := (by rw [hw]; exact HP52.2); have hp_ : Kd.R k52 52 w53 w.heap.size (fun _ => True) (.slice (some ⟨go43, 0, none⟩) x13_2.length co45) y235 := (by rw [hw, Ny235.out]; exact HP52.1); clear HP52; have n0_ := Aside0.mk (Kd.R_over' (v := (.slice (some ⟨go43, 0, none⟩) x13_2.length co45)) (by (with_reducible repeat (first | apply Kd.R_alloc | apply Kd.R_drewN | apply Kd.R_drew)); exact HO_12.out) (Kd.R_typed HO_13.out) (by decide) hg); have n1_ := Aside0.mk (hp_); have n2_ := Aside0.mk (blk_grown (g := gb225) (o := .cells #[.int .i64 t220, .int .u32 t221, .int .u32 t222, .int .u32 t223, .int .u32 t224] 48 (0, 0)) (by (with_reducible repeat (first | refine blk_drewN ?_ _ | refine blk_drew ?_ | refine blk_alloc ?_ _)); exact BK225.out) hg (Kd.R_ne HO_13.out BK225.out (by decide))); have n3_ := Aside0.mk ((by rw [hw]; exact below_set (HB.out) GB43.out : Below w.heap.size w w53)); clear HO_12; clear HO_13; clear BK225; clear HB; have HO_12 := n0_; have HO_13 := n1_; have BK225 := n2_; have HB := n3_; clear n0_ n1_ n2_ n3_; clear hg hw hp_))
                                  go_roundg k2
                                  case measure => have := HJ7.out; have := HK2.out; omega
                                  case rel => exact ⟨(y235), (wrap64 (x14_2 + 1)), (wrap64 (x15_2 + 1)), (by first | rfl | (simp; done) | (simp [*]; done)), (by first | rfl | (simp; done) | (simp [*]; done)), H', ⟨by have := HJ7.out; have := HK2.out; omega⟩, ⟨by (with_reducible repeat (first | apply Kd.R_alloc | apply Kd.R_drewN | apply Kd.R_drew)); exact HO_12.out⟩, ⟨by (with_reducible repeat (first | apply Kd.R_alloc | apply Kd.R_drewN | apply Kd.R_drew)); exact HO_13.out⟩, ⟨by repeat (first | (with_reducible first | exact HB.out | apply below_alloc | apply pw_below_drewN | apply below_drew1 | refine below_set ?_ GE225.out) | exact HB.out)⟩⟩
                              · rw [if_neg c41] at H
                                have c41b0 : (t223 == t233) = false := beq_eq_false_iff_ne.mpr c41
                                have c41b1 : (t223 != t233) = true := bne_iff_ne.mpr c41
                                exact absurd (Option.some.inj H) (by rw [HRT.out]; decide)
                            · rw [if_neg c39] at H
                              have c39b0 : (((rd_T52 x13_2 (ji36)).f0) == t222) = false := beq_eq_false_iff_ne.mpr c39
                              have c39b1 : (((rd_T52 x13_2 (ji36)).f0) != t222) = true := bne_iff_ne.mpr c39
                              exact absurd (Option.some.inj H) (by rw [HRT.out]; decide)
                          · rw [if_neg c38] at H
                            exact absurd H (by simp)
                        · rw [if_neg c37] at H
                          exact absurd H (by simp)
                  · rw [if_neg c33] at H
                    have c33b0 : (t220 == 4) = false := beq_eq_false_iff_ne.mpr c33
                    have c33b1 : (t220 != 4) = true := bne_iff_ne.mpr c33
                    by_cases c54 : t220 = 1
                    · rw [if_pos c54] at H
                      have c54b0 : (t220 == 1) = true := beq_iff_eq.mpr c54
                      have c54b1 : (t220 != 1) = false := bne_eq_false_iff_eq.mpr c54
                      clear c54
                      by_cases c55 : (Int.tmod t221 4096) = (Int.tmod a3 4096)
                      · rw [if_pos c55] at H
                        have c55b0 : ((Int.tmod t221 4096) == (Int.tmod a3 4096)) = true := beq_iff_eq.mpr c55
                        have c55b1 : ((Int.tmod t221 4096) != (Int.tmod a3 4096)) = false := bne_eq_false_iff_eq.mpr c55
                        clear c55
                        by_cases c56 : (x13_2.length : Int) = 0
                        · rw [if_pos c56] at H
                          have c56b0 : ((x13_2.length : Int) == 0) = true := beq_iff_eq.mpr c56
                          have c56b1 : ((x13_2.length : Int) != 0) = false := bne_eq_false_iff_eq.mpr c56
                          clear c56
                          by_cases c57 : t221 = a3
                          · rw [if_pos c57] at H
                            have c57b0 : (t221 == a3) = true := beq_iff_eq.mpr c57
                            have c57b1 : (t221 != a3) = false := bne_eq_false_iff_eq.mpr c57
                            clear c57
                            clear HRT
                            obtain rfl := Option.some.inj H
                            obtain ⟨Ao58, co58, eo58⟩ := Kd.R_slice HO_12.out
                            subst eo58
                            obtain ⟨Ao59, co59, eo59⟩ := Kd.R_slice HO_13.out
                            subst eo59
                            go_wp2_with (first | ((with_reducible refine gate_callee (f := 21) rfl ?_); refine goesL_ (some 42) rfl rfl Try.func21 (by kernel_rfl) rfl #[.int .u32 a1, .int .i64 a2, .int .u32 a3, .int .i64 a4, .int .i64 (wrap64 (4 * (t217.length : Int))), .slice Ao59 x13_2.length co59] rfl (by (try simp only [List.map_toArray, List.map_cons, List.map_nil]); first | done | rfl | (simp only [List.length_drop, List.length_take]; rfl)) ?_; (with_reducible refine (walk_Next.calls k2 a1 a2 a3 a4 (wrap64 (4 * (t217.length : Int))) _ _ x13_2 t220 t221 t222 t223 t224 _ ?side1 ?side2 A15.out).mono ?_); (case side1 => repeat (first | exact (Kd.R_reads' HO_13.out).2.2 | (with_reducible refine Kd.C_alloc ?_ _) | (with_reducible refine Kd.C_drewN ?_ _) | (with_reducible refine Kd.C_drew ?_))); (case side2 => exact (Kd.R_reads' HO_13.out).2.1); rintro e w60 ⟨rfl, hb⟩; refine ⟨_, rfl, ?_⟩; have n0_ := Aside0.mk (Kd.R_below (by (with_reducible repeat (first | apply Kd.R_alloc | apply Kd.R_drewN | apply Kd.R_drew)); exact HO_12.out) hb); have n1_ := Aside0.mk (Kd.R_below (by (with_reducible repeat (first | apply Kd.R_alloc | apply Kd.R_drewN | apply Kd.R_drew)); exact HO_13.out) hb); have n2_ := Aside0.mk (below_step (by repeat (first | (with_reducible first | exact HB.out | apply below_alloc | apply pw_below_drewN | apply below_drew1) | exact HB.out)) hb); clear HO_12; clear HO_13; clear HB; have HO_12 := n0_; have HO_13 := n1_; have HB := n2_; clear n0_ n1_ n2_; (try clear hb); (try clear hb2); (try clear hk); (try clear hi)) | ((with_reducible refine gate_dst (N := 16) rfl ?_); (try (refine gate_guard (by rfl) ?_; dsimp only)); refine box_event ?hg (N := 16) ?hd (cs := #[.int .i64 0, .int .u32 0, .int .u32 0, .int .u32 0, .int .u32 0]) (t := 48) ?hr ?_; (case hd => rfl); (case hg => rfl); (case hr => first | (go_simp; done) | (go_simp; rfl)); intro gb225 hg w61 hbox hb; have n0_ := Aside0.mk (Kd.R_below (by (with_reducible repeat (first | apply Kd.R_alloc | apply Kd.R_drewN | apply Kd.R_drew)); exact HO_12.out) hb); have n1_ := Aside0.mk (Kd.R_below (by (with_reducible repeat (first | apply Kd.R_alloc | apply Kd.R_drewN | apply Kd.R_drew)); exact HO_13.out) hb); have n2_ := Aside0.mk (below_step (by repeat (first | (with_reducible first | exact HB.out | apply below_alloc | apply pw_below_drewN | apply below_drew1) | exact HB.out)) hb); have n3_ := Aside0.mk (hbox); have n4_ := Aside0.mk ((by rw [hg]; exact (below_size (by repeat (first | (with_reducible first | exact HB.out | apply below_alloc | apply pw_below_drewN | apply below_drew1) | exact HB.out))) : w.heap.size ≤ gb225)); have n5_ := Aside0.mk ((by rw [hg]; exact (below_size (by repeat (first | (with_reducible first | exact HB.out | apply below_alloc | apply pw_below_drewN | apply below_drew1) | exact HB.out))) : w.heap.size ≤ gb225)); clear HO_12; clear HO_13; clear HB; have HO_12 := n0_; have HO_13 := n1_; have HB := n2_; have BK225 := n3_; have GW225 := n4_; have GE225 := n5_; clear n0_ n1_ n2_ n3_ n4_ n5_; clear hb hbox hg; have hcz62_0 : w61.cell? ⟨gb225, 0, none⟩ = some (.int .i64 0) := (blk_cell BK225.out 0).trans rfl; have hcz62_1 : w61.cell? ⟨gb225, 1, none⟩ = some (.int .u32 0) := (blk_cell BK225.out 1).trans rfl; have hcz62_2 : w61.cell? ⟨gb225, 2, none⟩ = some (.int .u32 0) := (blk_cell BK225.out 2).trans rfl; have hcz62_3 : w61.cell? ⟨gb225, 3, none⟩ = some (.int .u32 0) := (blk_cell BK225.out 3).trans rfl; have hcz62_4 : w61.cell? ⟨gb225, 4, none⟩ = some (.int .u32 0) := (blk_cell BK225.out 4).trans rfl; have hfz62_0 := blk_frozen BK225.out 0; have hfz62_1 := blk_frozen BK225.out 1; have hfz62_2 := blk_frozen BK225.out 2; have hfz62_3 := blk_frozen BK225.out 3; have hfz62_4 := blk_frozen BK225.out 4))
                            go_ret
                            exact ⟨by first | rfl | (simp [errW_none, errW_some] <;> rfl) | (simp [*, errW_none, errW_some] <;> rfl), by repeat (first | (with_reducible first | exact HB.out | apply below_alloc | apply pw_below_drewN | apply below_drew1 | refine below_set ?_ GE225.out) | exact HB.out)⟩
                          · rw [if_neg c57] at H
                            have c57b0 : (t221 == a3) = false := beq_eq_false_iff_ne.mpr c57
                            have c57b1 : (t221 != a3) = true := bne_iff_ne.mpr c57
                            by_cases c63 : (x13_2.length : Int) > 0
                            · rw [if_pos c63] at H
                              have c63b0 : decide (0 < (x13_2.length : Int)) = true := decide_eq_true c63
                              have c63b1 : decide (0 < x13_2.length) = true := decide_eq_true (by omega)
                              clear c63
                              obtain ⟨ji64, hji64⟩ : ∃ j_ : Int, (wrap64 ((x13_2.length : Int) - 1)) = j_ := ⟨_, rfl⟩
                              replace H : (if 0 ≤ (ji64) then (if (ji64) < (x13_2.length : Int) then ((pte_May.f ((rd_T52 x13_2 (ji64)).f1) a4 a2).bind fun t237 => (some t237)) else (none)) else (none)) = some r := by first | (rw [hji64] at H; exact H) | (simp only [hji64] at H ⊢; exact H)
                              (try rw [hji64] at A15)
                              have hji64w : (IntKind.i64.wrap ((x13_2.length : Int) - 1)) = ji64 := (i64_w _).trans hji64
                              by_cases c65 : 0 ≤ (ji64)
                              · rw [if_pos c65] at H
                                have c65b0 : decide (0 ≤ (ji64)) = true := decide_eq_true c65
                                clear c65
                                by_cases c66 : (ji64) < (x13_2.length : Int)
                                · rw [if_pos c66] at H
                                  have c66b0 : decide ((ji64) < (x13_2.length : Int)) = true := decide_eq_true c66
                                  clear c66
                                  replace H := Option.bind_eq_some_iff.mp H
                                  obtain ⟨t237, A670, H⟩ := H
                                  replace H : (some t237) = some r := H
                                  have A67 := Aside0.mk A670
                                  clear A670
                                  clear HRT
                                  obtain rfl := Option.some.inj H
                                  obtain ⟨Ao68, co68, eo68⟩ := Kd.R_slice HO_12.out
                                  subst eo68
                                  obtain ⟨Ao69, co69, eo69⟩ := Kd.R_slice HO_13.out
                                  subst eo69
                                  go_wp2_with (first | ((with_reducible refine gate_callee (f := 21) rfl ?_); refine goesL_ (some 42) rfl rfl Try.func21 (by kernel_rfl) rfl #[.int .u32 a1, .int .i64 a2, .int .u32 a3, .int .i64 a4, .int .i64 (wrap64 (4 * (t217.length : Int))), .slice Ao69 x13_2.length co69] rfl (by (try simp only [List.map_toArray, List.map_cons, List.map_nil]); first | done | rfl | (simp only [List.length_drop, List.length_take]; rfl)) ?_; (with_reducible refine (walk_Next.calls k2 a1 a2 a3 a4 (wrap64 (4 * (t217.length : Int))) _ _ x13_2 t220 t221 t222 t223 t224 _ ?side1 ?side2 A15.out).mono ?_); (case side1 => repeat (first | exact (Kd.R_reads' HO_13.out).2.2 | (with_reducible refine Kd.C_alloc ?_ _) | (with_reducible refine Kd.C_drewN ?_ _) | (with_reducible refine Kd.C_drew ?_))); (case side2 => exact (Kd.R_reads' HO_13.out).2.1); rintro e w70 ⟨rfl, hb⟩; refine ⟨_, rfl, ?_⟩; have n0_ := Aside0.mk (Kd.R_below (by (with_reducible repeat (first | apply Kd.R_alloc | apply Kd.R_drewN | apply Kd.R_drew)); exact HO_12.out) hb); have n1_ := Aside0.mk (Kd.R_below (by (with_reducible repeat (first | apply Kd.R_alloc | apply Kd.R_drewN | apply Kd.R_drew)); exact HO_13.out) hb); have n2_ := Aside0.mk (below_step (by repeat (first | (with_reducible first | exact HB.out | apply below_alloc | apply pw_below_drewN | apply below_drew1) | exact HB.out)) hb); clear HO_12; clear HO_13; clear HB; have HO_12 := n0_; have HO_13 := n1_; have HB := n2_; clear n0_ n1_ n2_; (try clear hb); (try clear hb2); (try clear hk); (try clear hi)) | ((with_reducible refine gate_dst (N := 16) rfl ?_); (try (refine gate_guard (by rfl) ?_; dsimp only)); refine box_event ?hg (N := 16) ?hd (cs := #[.int .i64 0, .int .u32 0, .int .u32 0, .int .u32 0, .int .u32 0]) (t := 48) ?hr ?_; (case hd => rfl); (case hg => rfl); (case hr => first | (go_simp; done) | (go_simp; rfl)); intro gb225 hg w71 hbox hb; have n0_ := Aside0.mk (Kd.R_below (by (with_reducible repeat (first | apply Kd.R_alloc | apply Kd.R_drewN | apply Kd.R_drew)); exact HO_12.out) hb); have n1_ := Aside0.mk (Kd.R_below (by (with_reducible repeat (first | apply Kd.R_alloc | apply Kd.R_drewN | apply Kd.R_drew)); exact HO_13.out) hb); have n2_ := Aside0.mk (below_step (by repeat (first | (with_reducible first | exact HB.out | apply below_alloc | apply pw_below_drewN | apply below_drew1) | exact HB.out)) hb); have n3_ := Aside0.mk (hbox); have n4_ := Aside0.mk ((by rw [hg]; exact (below_size (by repeat (first | (with_reducible first | exact HB.out | apply below_alloc | apply pw_below_drewN | apply below_drew1) | exact HB.out))) : w.heap.size ≤ gb225)); have n5_ := Aside0.mk ((by rw [hg]; exact (below_size (by repeat (first | (with_reducible first | exact HB.out | apply below_alloc | apply pw_below_drewN | apply below_drew1) | exact HB.out))) : w.heap.size ≤ gb225)); clear HO_12; clear HO_13; clear HB; have HO_12 := n0_; have HO_13 := n1_; have HB := n2_; have BK225 := n3_; have GW225 := n4_; have GE225 := n5_; clear n0_ n1_ n2_ n3_ n4_ n5_; clear hb hbox hg; have hcz72_0 : w71.cell? ⟨gb225, 0, none⟩ = some (.int .i64 0) := (blk_cell BK225.out 0).trans rfl; have hcz72_1 : w71.cell? ⟨gb225, 1, none⟩ = some (.int .u32 0) := (blk_cell BK225.out 1).trans rfl; have hcz72_2 : w71.cell? ⟨gb225, 2, none⟩ = some (.int .u32 0) := (blk_cell BK225.out 2).trans rfl; have hcz72_3 : w71.cell? ⟨gb225, 3, none⟩ = some (.int .u32 0) := (blk_cell BK225.out 3).trans rfl; have hcz72_4 : w71.cell? ⟨gb225, 4, none⟩ = some (.int .u32 0) := (blk_cell BK225.out 4).trans rfl; have hfz72_0 := blk_frozen BK225.out 0; have hfz72_1 := blk_frozen BK225.out 1; have hfz72_2 := blk_frozen BK225.out 2; have hfz72_3 := blk_frozen BK225.out 3; have hfz72_4 := blk_frozen BK225.out 4; have p236 : 0 ≤ ((ji64) : Int) := of_decide_eq_true (by first | (with_reducible assumption) | assumption); have q236 : (ji64) < (x13_2.length : Int) := of_decide_eq_true (by first | (with_reducible assumption) | assumption); obtain ⟨ad236, e236, hx236_0, hx236_1, hx236_2, hx236_3, hx236_4⟩ := at_T52 (Kd.R_reads' HO_13.out).2.2 (ji64) p236 q236; cases e236; have hn236_0 : ad236.block ≠ gb225 := Kd.own_blk (Kd.R_ne HO_13.out BK225.out (by decide)); have hn236_1 : ad236.block ≠ gb225 := Kd.own_blk (Kd.R_ne HO_13.out BK225.out (by decide)); have hn236_2 : ad236.block ≠ gb225 := Kd.own_blk (Kd.R_ne HO_13.out BK225.out (by decide)); have hn236_3 : ad236.block ≠ gb225 := Kd.own_blk (Kd.R_ne HO_13.out BK225.out (by decide)); have hn236_4 : ad236.block ≠ gb225 := Kd.own_blk (Kd.R_ne HO_13.out BK225.out (by decide)); replace hx236_0 := (cell_far (p := ⟨gb225, 0, none⟩) (by first | (rw [add_block]; exact hn236_0) | (show (Addr.add _ _).block ≠ _; rw [add_block]; exact hn236_0) | exact hn236_0) (.int .i64 t220)).trans hx236_0; replace hx236_1 := (cell_far (p := ⟨gb225, 0, none⟩) (by first | (rw [add_block]; exact hn236_0) | (show (Addr.add _ _).block ≠ _; rw [add_block]; exact hn236_0) | exact hn236_0) (.int .i64 t220)).trans hx236_1; replace hx236_2 := (cell_far (p := ⟨gb225, 0, none⟩) (by first | (rw [add_block]; exact hn236_0) | (show (Addr.add _ _).block ≠ _; rw [add_block]; exact hn236_0) | exact hn236_0) (.int .i64 t220)).trans hx236_2; replace hx236_3 := (cell_far (p := ⟨gb225, 0, none⟩) (by first | (rw [add_block]; exact hn236_0) | (show (Addr.add _ _).block ≠ _; rw [add_block]; exact hn236_0) | exact hn236_0) (.int .i64 t220)).trans hx236_3; replace hx236_4 := (cell_far (p := ⟨gb225, 0, none⟩) (by first | (rw [add_block]; exact hn236_0) | (show (Addr.add _ _).block ≠ _; rw [add_block]; exact hn236_0) | exact hn236_0) (.int .i64 t220)).trans hx236_4; replace hx236_0 := (cell_far (p := ⟨gb225, 1, none⟩) (by first | (rw [add_block]; exact hn236_1) | (show (Addr.add _ _).block ≠ _; rw [add_block]; exact hn236_1) | exact hn236_1) (.int .u32 t221)).trans hx236_0; replace hx236_1 := (cell_far (p := ⟨gb225, 1, none⟩) (by first | (rw [add_block]; exact hn236_1) | (show (Addr.add _ _).block ≠ _; rw [add_block]; exact hn236_1) | exact hn236_1) (.int .u32 t221)).trans hx236_1; replace hx236_2 := (cell_far (p := ⟨gb225, 1, none⟩) (by first | (rw [add_block]; exact hn236_1) | (show (Addr.add _ _).block ≠ _; rw [add_block]; exact hn236_1) | exact hn236_1) (.int .u32 t221)).trans hx236_2; replace hx236_3 := (cell_far (p := ⟨gb225, 1, none⟩) (by first | (rw [add_block]; exact hn236_1) | (show (Addr.add _ _).block ≠ _; rw [add_block]; exact hn236_1) | exact hn236_1) (.int .u32 t221)).trans hx236_3; replace hx236_4 := (cell_far (p := ⟨gb225, 1, none⟩) (by first | (rw [add_block]; exact hn236_1) | (show (Addr.add _ _).block ≠ _; rw [add_block]; exact hn236_1) | exact hn236_1) (.int .u32 t221)).trans hx236_4; replace hx236_0 := (cell_far (p := ⟨gb225, 2, none⟩) (by first | (rw [add_block]; exact hn236_2) | (show (Addr.add _ _).block ≠ _; rw [add_block]; exact hn236_2) | exact hn236_2) (.int .u32 t222)).trans hx236_0; replace hx236_1 := (cell_far (p := ⟨gb225, 2, none⟩) (by first | (rw [add_block]; exact hn236_2) | (show (Addr.add _ _).block ≠ _; rw [add_block]; exact hn236_2) | exact hn236_2) (.int .u32 t222)).trans hx236_1; replace hx236_2 := (cell_far (p := ⟨gb225, 2, none⟩) (by first | (rw [add_block]; exact hn236_2) | (show (Addr.add _ _).block ≠ _; rw [add_block]; exact hn236_2) | exact hn236_2) (.int .u32 t222)).trans hx236_2; replace hx236_3 := (cell_far (p := ⟨gb225, 2, none⟩) (by first | (rw [add_block]; exact hn236_2) | (show (Addr.add _ _).block ≠ _; rw [add_block]; exact hn236_2) | exact hn236_2) (.int .u32 t222)).trans hx236_3; replace hx236_4 := (cell_far (p := ⟨gb225, 2, none⟩) (by first | (rw [add_block]; exact hn236_2) | (show (Addr.add _ _).block ≠ _; rw [add_block]; exact hn236_2) | exact hn236_2) (.int .u32 t222)).trans hx236_4; replace hx236_0 := (cell_far (p := ⟨gb225, 3, none⟩) (by first | (rw [add_block]; exact hn236_3) | (show (Addr.add _ _).block ≠ _; rw [add_block]; exact hn236_3) | exact hn236_3) (.int .u32 t223)).trans hx236_0; replace hx236_1 := (cell_far (p := ⟨gb225, 3, none⟩) (by first | (rw [add_block]; exact hn236_3) | (show (Addr.add _ _).block ≠ _; rw [add_block]; exact hn236_3) | exact hn236_3) (.int .u32 t223)).trans hx236_1; replace hx236_2 := (cell_far (p := ⟨gb225, 3, none⟩) (by first | (rw [add_block]; exact hn236_3) | (show (Addr.add _ _).block ≠ _; rw [add_block]; exact hn236_3) | exact hn236_3) (.int .u32 t223)).trans hx236_2; replace hx236_3 := (cell_far (p := ⟨gb225, 3, none⟩) (by first | (rw [add_block]; exact hn236_3) | (show (Addr.add _ _).block ≠ _; rw [add_block]; exact hn236_3) | exact hn236_3) (.int .u32 t223)).trans hx236_3; replace hx236_4 := (cell_far (p := ⟨gb225, 3, none⟩) (by first | (rw [add_block]; exact hn236_3) | (show (Addr.add _ _).block ≠ _; rw [add_block]; exact hn236_3) | exact hn236_3) (.int .u32 t223)).trans hx236_4; replace hx236_0 := (cell_far (p := ⟨gb225, 4, none⟩) (by first | (rw [add_block]; exact hn236_4) | (show (Addr.add _ _).block ≠ _; rw [add_block]; exact hn236_4) | exact hn236_4) (.int .u32 t224)).trans hx236_0; replace hx236_1 := (cell_far (p := ⟨gb225, 4, none⟩) (by first | (rw [add_block]; exact hn236_4) | (show (Addr.add _ _).block ≠ _; rw [add_block]; exact hn236_4) | exact hn236_4) (.int .u32 t224)).trans hx236_1; replace hx236_2 := (cell_far (p := ⟨gb225, 4, none⟩) (by first | (rw [add_block]; exact hn236_4) | (show (Addr.add _ _).block ≠ _; rw [add_block]; exact hn236_4) | exact hn236_4) (.int .u32 t224)).trans hx236_2; replace hx236_3 := (cell_far (p := ⟨gb225, 4, none⟩) (by first | (rw [add_block]; exact hn236_4) | (show (Addr.add _ _).block ≠ _; rw [add_block]; exact hn236_4) | exact hn236_4) (.int .u32 t224)).trans hx236_3; replace hx236_4 := (cell_far (p := ⟨gb225, 4, none⟩) (by first | (rw [add_block]; exact hn236_4) | (show (Addr.add _ _).block ≠ _; rw [add_block]; exact hn236_4) | exact hn236_4) (.int .u32 t224)).trans hx236_4; clear hn236_0; clear hn236_1; clear hn236_2; clear hn236_3; clear hn236_4; replace p236 := eq_true p236; replace q236 := eq_true q236) | (go_at_call 24; (with_reducible refine (pte_May.calls ((rd_T52 x13_2 (ji64)).f1) a4 a2 t237 _ A67.out).mono ?_); rintro e w' ⟨rfl, ⟨nd, rfl⟩⟩))
                                  go_ret
                                  exact ⟨by first | rfl | (simp [errW_none, errW_some] <;> rfl) | (simp only [← hji64]; first | rfl | (simp [errW_none, errW_some] <;> rfl)) | (simp [*, errW_none, errW_some] <;> rfl), by repeat (first | (with_reducible first | exact HB.out | apply below_alloc | apply pw_below_drewN | apply below_drew1 | refine below_set ?_ GE225.out) | exact HB.out)⟩
                                · rw [if_neg c66] at H
                                  exact absurd H (by simp)
                              · rw [if_neg c65] at H
                                exact absurd H (by simp)
                            · rw [if_neg c63] at H
                              have c63b0 : decide (0 < (x13_2.length : Int)) = false := decide_eq_false c63
                              have c63b1 : decide (0 < x13_2.length) = false := decide_eq_false (by omega)
                              clear c63
                              exact absurd (Option.some.inj H) (by rw [HRT.out]; decide)
                        · rw [if_neg c56] at H
                          have c56b0 : ((x13_2.length : Int) == 0) = false := beq_eq_false_iff_ne.mpr c56
                          have c56b1 : ((x13_2.length : Int) != 0) = true := bne_iff_ne.mpr c56
                          have c56b2 : ¬ (x13_2 = []) := fun h_ => c56 (by rw [h_]; rfl)
                          by_cases c73 : (x13_2.length : Int) > 0
                          · rw [if_pos c73] at H
                            have c73b0 : decide (0 < (x13_2.length : Int)) = true := decide_eq_true c73
                            have c73b1 : decide (0 < x13_2.length) = true := decide_eq_true (by omega)
                            clear c73
                            obtain ⟨ji74, hji74⟩ : ∃ j_ : Int, (wrap64 ((x13_2.length : Int) - 1)) = j_ := ⟨_, rfl⟩
                            replace H : (if 0 ≤ (ji74) then (if (ji74) < (x13_2.length : Int) then ((pte_May.f ((rd_T52 x13_2 (ji74)).f1) a4 a2).bind fun t239 => (some t239)) else (none)) else (none)) = some r := by first | (rw [hji74] at H; exact H) | (simp only [hji74] at H ⊢; exact H)
                            (try rw [hji74] at A15)
                            have hji74w : (IntKind.i64.wrap ((x13_2.length : Int) - 1)) = ji74 := (i64_w _).trans hji74
                            by_cases c75 : 0 ≤ (ji74)
                            · rw [if_pos c75] at H
                              have c75b0 : decide (0 ≤ (ji74)) = true := decide_eq_true c75
                              clear c75
                              by_cases c76 : (ji74) < (x13_2.length : Int)
                              · rw [if_pos c76] at H
                                have c76b0 : decide ((ji74) < (x13_2.length : Int)) = true := decide_eq_true c76
                                clear c76
                                replace H := Option.bind_eq_some_iff.mp H
                                obtain ⟨t239, A770, H⟩ := H
                                replace H : (some t239) = some r := H
                                have A77 := Aside0.mk A770
                                clear A770
                                clear HRT
                                obtain rfl := Option.some.inj H
                                obtain ⟨Ao78, co78, eo78⟩ := Kd.R_slice HO_12.out
                                subst eo78
                                obtain ⟨Ao79, co79, eo79⟩ := Kd.R_slice HO_13.out
                                subst eo79
                                go_wp2_with (first | ((with_reducible refine gate_callee (f := 21) rfl ?_); refine goesL_ (some 42) rfl rfl Try.func21 (by kernel_rfl) rfl #[.int .u32 a1, .int .i64 a2, .int .u32 a3, .int .i64 a4, .int .i64 (wrap64 (4 * (t217.length : Int))), .slice Ao79 x13_2.length co79] rfl (by (try simp only [List.map_toArray, List.map_cons, List.map_nil]); first | done | rfl | (simp only [List.length_drop, List.length_take]; rfl)) ?_; (with_reducible refine (walk_Next.calls k2 a1 a2 a3 a4 (wrap64 (4 * (t217.length : Int))) _ _ x13_2 t220 t221 t222 t223 t224 _ ?side1 ?side2 A15.out).mono ?_); (case side1 => repeat (first | exact (Kd.R_reads' HO_13.out).2.2 | (with_reducible refine Kd.C_alloc ?_ _) | (with_reducible refine Kd.C_drewN ?_ _) | (with_reducible refine Kd.C_drew ?_))); (case side2 => exact (Kd.R_reads' HO_13.out).2.1); rintro e w80 ⟨rfl, hb⟩; refine ⟨_, rfl, ?_⟩; have n0_ := Aside0.mk (Kd.R_below (by (with_reducible repeat (first | apply Kd.R_alloc | apply Kd.R_drewN | apply Kd.R_drew)); exact HO_12.out) hb); have n1_ := Aside0.mk (Kd.R_below (by (with_reducible repeat (first | apply Kd.R_alloc | apply Kd.R_drewN | apply Kd.R_drew)); exact HO_13.out) hb); have n2_ := Aside0.mk (below_step (by repeat (first | (with_reducible first | exact HB.out | apply below_alloc | apply pw_below_drewN | apply below_drew1) | exact HB.out)) hb); clear HO_12; clear HO_13; clear HB; have HO_12 := n0_; have HO_13 := n1_; have HB := n2_; clear n0_ n1_ n2_; (try clear hb); (try clear hb2); (try clear hk); (try clear hi)) | ((with_reducible refine gate_dst (N := 16) rfl ?_); (try (refine gate_guard (by rfl) ?_; dsimp only)); refine box_event ?hg (N := 16) ?hd (cs := #[.int .i64 0, .int .u32 0, .int .u32 0, .int .u32 0, .int .u32 0]) (t := 48) ?hr ?_; (case hd => rfl); (case hg => rfl); (case hr => first | (go_simp; done) | (go_simp; rfl)); intro gb225 hg w81 hbox hb; have n0_ := Aside0.mk (Kd.R_below (by (with_reducible repeat (first | apply Kd.R_alloc | apply Kd.R_drewN | apply Kd.R_drew)); exact HO_12.out) hb); have n1_ := Aside0.mk (Kd.R_below (by (with_reducible repeat (first | apply Kd.R_alloc | apply Kd.R_drewN | apply Kd.R_drew)); exact HO_13.out) hb); have n2_ := Aside0.mk (below_step (by repeat (first | (with_reducible first | exact HB.out | apply below_alloc | apply pw_below_drewN | apply below_drew1) | exact HB.out)) hb); have n3_ := Aside0.mk (hbox); have n4_ := Aside0.mk ((by rw [hg]; exact (below_size (by repeat (first | (with_reducible first | exact HB.out | apply below_alloc | apply pw_below_drewN | apply below_drew1) | exact HB.out))) : w.heap.size ≤ gb225)); have n5_ := Aside0.mk ((by rw [hg]; exact (below_size (by repeat (first | (with_reducible first | exact HB.out | apply below_alloc | apply pw_below_drewN | apply below_drew1) | exact HB.out))) : w.heap.size ≤ gb225)); clear HO_12; clear HO_13; clear HB; have HO_12 := n0_; have HO_13 := n1_; have HB := n2_; have BK225 := n3_; have GW225 := n4_; have GE225 := n5_; clear n0_ n1_ n2_ n3_ n4_ n5_; clear hb hbox hg; have hcz82_0 : w81.cell? ⟨gb225, 0, none⟩ = some (.int .i64 0) := (blk_cell BK225.out 0).trans rfl; have hcz82_1 : w81.cell? ⟨gb225, 1, none⟩ = some (.int .u32 0) := (blk_cell BK225.out 1).trans rfl; have hcz82_2 : w81.cell? ⟨gb225, 2, none⟩ = some (.int .u32 0) := (blk_cell BK225.out 2).trans rfl; have hcz82_3 : w81.cell? ⟨gb225, 3, none⟩ = some (.int .u32 0) := (blk_cell BK225.out 3).trans rfl; have hcz82_4 : w81.cell? ⟨gb225, 4, none⟩ = some (.int .u32 0) := (blk_cell BK225.out 4).trans rfl; have hfz82_0 := blk_frozen BK225.out 0; have hfz82_1 := blk_frozen BK225.out 1; have hfz82_2 := blk_frozen BK225.out 2; have hfz82_3 := blk_frozen BK225.out 3; have hfz82_4 := blk_frozen BK225.out 4; have p238 : 0 ≤ ((ji74) : Int) := of_decide_eq_true (by first | (with_reducible assumption) | assumption); have q238 : (ji74) < (x13_2.length : Int) := of_decide_eq_true (by first | (with_reducible assumption) | assumption); obtain ⟨ad238, e238, hx238_0, hx238_1, hx238_2, hx238_3, hx238_4⟩ := at_T52 (Kd.R_reads' HO_13.out).2.2 (ji74) p238 q238; cases e238; have hn238_0 : ad238.block ≠ gb225 := Kd.own_blk (Kd.R_ne HO_13.out BK225.out (by decide)); have hn238_1 : ad238.block ≠ gb225 := Kd.own_blk (Kd.R_ne HO_13.out BK225.out (by decide)); have hn238_2 : ad238.block ≠ gb225 := Kd.own_blk (Kd.R_ne HO_13.out BK225.out (by decide)); have hn238_3 : ad238.block ≠ gb225 := Kd.own_blk (Kd.R_ne HO_13.out BK225.out (by decide)); have hn238_4 : ad238.block ≠ gb225 := Kd.own_blk (Kd.R_ne HO_13.out BK225.out (by decide)); replace hx238_0 := (cell_far (p := ⟨gb225, 0, none⟩) (by first | (rw [add_block]; exact hn238_0) | (show (Addr.add _ _).block ≠ _; rw [add_block]; exact hn238_0) | exact hn238_0) (.int .i64 t220)).trans hx238_0; replace hx238_1 := (cell_far (p := ⟨gb225, 0, none⟩) (by first | (rw [add_block]; exact hn238_0) | (show (Addr.add _ _).block ≠ _; rw [add_block]; exact hn238_0) | exact hn238_0) (.int .i64 t220)).trans hx238_1; replace hx238_2 := (cell_far (p := ⟨gb225, 0, none⟩) (by first | (rw [add_block]; exact hn238_0) | (show (Addr.add _ _).block ≠ _; rw [add_block]; exact hn238_0) | exact hn238_0) (.int .i64 t220)).trans hx238_2; replace hx238_3 := (cell_far (p := ⟨gb225, 0, none⟩) (by first | (rw [add_block]; exact hn238_0) | (show (Addr.add _ _).block ≠ _; rw [add_block]; exact hn238_0) | exact hn238_0) (.int .i64 t220)).trans hx238_3; replace hx238_4 := (cell_far (p := ⟨gb225, 0, none⟩) (by first | (rw [add_block]; exact hn238_0) | (show (Addr.add _ _).block ≠ _; rw [add_block]; exact hn238_0) | exact hn238_0) (.int .i64 t220)).trans hx238_4; replace hx238_0 := (cell_far (p := ⟨gb225, 1, none⟩) (by first | (rw [add_block]; exact hn238_1) | (show (Addr.add _ _).block ≠ _; rw [add_block]; exact hn238_1) | exact hn238_1) (.int .u32 t221)).trans hx238_0; replace hx238_1 := (cell_far (p := ⟨gb225, 1, none⟩) (by first | (rw [add_block]; exact hn238_1) | (show (Addr.add _ _).block ≠ _; rw [add_block]; exact hn238_1) | exact hn238_1) (.int .u32 t221)).trans hx238_1; replace hx238_2 := (cell_far (p := ⟨gb225, 1, none⟩) (by first | (rw [add_block]; exact hn238_1) | (show (Addr.add _ _).block ≠ _; rw [add_block]; exact hn238_1) | exact hn238_1) (.int .u32 t221)).trans hx238_2; replace hx238_3 := (cell_far (p := ⟨gb225, 1, none⟩) (by first | (rw [add_block]; exact hn238_1) | (show (Addr.add _ _).block ≠ _; rw [add_block]; exact hn238_1) | exact hn238_1) (.int .u32 t221)).trans hx238_3; replace hx238_4 := (cell_far (p := ⟨gb225, 1, none⟩) (by first | (rw [add_block]; exact hn238_1) | (show (Addr.add _ _).block ≠ _; rw [add_block]; exact hn238_1) | exact hn238_1) (.int .u32 t221)).trans hx238_4; replace hx238_0 := (cell_far (p := ⟨gb225, 2, none⟩) (by first | (rw [add_block]; exact hn238_2) | (show (Addr.add _ _).block ≠ _; rw [add_block]; exact hn238_2) | exact hn238_2) (.int .u32 t222)).trans hx238_0; replace hx238_1 := (cell_far (p := ⟨gb225, 2, none⟩) (by first | (rw [add_block]; exact hn238_2) | (show (Addr.add _ _).block ≠ _; rw [add_block]; exact hn238_2) | exact hn238_2) (.int .u32 t222)).trans hx238_1; replace hx238_2 := (cell_far (p := ⟨gb225, 2, none⟩) (by first | (rw [add_block]; exact hn238_2) | (show (Addr.add _ _).block ≠ _; rw [add_block]; exact hn238_2) | exact hn238_2) (.int .u32 t222)).trans hx238_2; replace hx238_3 := (cell_far (p := ⟨gb225, 2, none⟩) (by first | (rw [add_block]; exact hn238_2) | (show (Addr.add _ _).block ≠ _; rw [add_block]; exact hn238_2) | exact hn238_2) (.int .u32 t222)).trans hx238_3; replace hx238_4 := (cell_far (p := ⟨gb225, 2, none⟩) (by first | (rw [add_block]; exact hn238_2) | (show (Addr.add _ _).block ≠ _; rw [add_block]; exact hn238_2) | exact hn238_2) (.int .u32 t222)).trans hx238_4; replace hx238_0 := (cell_far (p := ⟨gb225, 3, none⟩) (by first | (rw [add_block]; exact hn238_3) | (show (Addr.add _ _).block ≠ _; rw [add_block]; exact hn238_3) | exact hn238_3) (.int .u32 t223)).trans hx238_0; replace hx238_1 := (cell_far (p := ⟨gb225, 3, none⟩) (by first | (rw [add_block]; exact hn238_3) | (show (Addr.add _ _).block ≠ _; rw [add_block]; exact hn238_3) | exact hn238_3) (.int .u32 t223)).trans hx238_1; replace hx238_2 := (cell_far (p := ⟨gb225, 3, none⟩) (by first | (rw [add_block]; exact hn238_3) | (show (Addr.add _ _).block ≠ _; rw [add_block]; exact hn238_3) | exact hn238_3) (.int .u32 t223)).trans hx238_2; replace hx238_3 := (cell_far (p := ⟨gb225, 3, none⟩) (by first | (rw [add_block]; exact hn238_3) | (show (Addr.add _ _).block ≠ _; rw [add_block]; exact hn238_3) | exact hn238_3) (.int .u32 t223)).trans hx238_3; replace hx238_4 := (cell_far (p := ⟨gb225, 3, none⟩) (by first | (rw [add_block]; exact hn238_3) | (show (Addr.add _ _).block ≠ _; rw [add_block]; exact hn238_3) | exact hn238_3) (.int .u32 t223)).trans hx238_4; replace hx238_0 := (cell_far (p := ⟨gb225, 4, none⟩) (by first | (rw [add_block]; exact hn238_4) | (show (Addr.add _ _).block ≠ _; rw [add_block]; exact hn238_4) | exact hn238_4) (.int .u32 t224)).trans hx238_0; replace hx238_1 := (cell_far (p := ⟨gb225, 4, none⟩) (by first | (rw [add_block]; exact hn238_4) | (show (Addr.add _ _).block ≠ _; rw [add_block]; exact hn238_4) | exact hn238_4) (.int .u32 t224)).trans hx238_1; replace hx238_2 := (cell_far (p := ⟨gb225, 4, none⟩) (by first | (rw [add_block]; exact hn238_4) | (show (Addr.add _ _).block ≠ _; rw [add_block]; exact hn238_4) | exact hn238_4) (.int .u32 t224)).trans hx238_2; replace hx238_3 := (cell_far (p := ⟨gb225, 4, none⟩) (by first | (rw [add_block]; exact hn238_4) | (show (Addr.add _ _).block ≠ _; rw [add_block]; exact hn238_4) | exact hn238_4) (.int .u32 t224)).trans hx238_3; replace hx238_4 := (cell_far (p := ⟨gb225, 4, none⟩) (by first | (rw [add_block]; exact hn238_4) | (show (Addr.add _ _).block ≠ _; rw [add_block]; exact hn238_4) | exact hn238_4) (.int .u32 t224)).trans hx238_4; clear hn238_0; clear hn238_1; clear hn238_2; clear hn238_3; clear hn238_4; replace p238 := eq_true p238; replace q238 := eq_true q238) | (go_at_call 24; (with_reducible refine (pte_May.calls ((rd_T52 x13_2 (ji74)).f1) a4 a2 t239 _ A77.out).mono ?_); rintro e w' ⟨rfl, ⟨nd, rfl⟩⟩))
                                go_ret
                                exact ⟨by first | rfl | (simp [errW_none, errW_some] <;> rfl) | (simp only [← hji74]; first | rfl | (simp [errW_none, errW_some] <;> rfl)) | (simp [*, errW_none, errW_some] <;> rfl), by repeat (first | (with_reducible first | exact HB.out | apply below_alloc | apply pw_below_drewN | apply below_drew1 | refine below_set ?_ GE225.out) | exact HB.out)⟩
                              · rw [if_neg c76] at H
                                exact absurd H (by simp)
                            · rw [if_neg c75] at H
                              exact absurd H (by simp)
                          · rw [if_neg c73] at H
                            have c73b0 : decide (0 < (x13_2.length : Int)) = false := decide_eq_false c73
                            have c73b1 : decide (0 < x13_2.length) = false := decide_eq_false (by omega)
                            clear c73
                            exact absurd (Option.some.inj H) (by rw [HRT.out]; decide)
                      · rw [if_neg c55] at H
                        have c55b0 : ((Int.tmod t221 4096) == (Int.tmod a3 4096)) = false := beq_eq_false_iff_ne.mpr c55
                        have c55b1 : ((Int.tmod t221 4096) != (Int.tmod a3 4096)) = true := bne_iff_ne.mpr c55
                        exact absurd (Option.some.inj H) (by rw [HRT.out]; decide)
                    · rw [if_neg c54] at H
                      have c54b0 : (t220 == 1) = false := beq_eq_false_iff_ne.mpr c54
                      have c54b1 : (t220 != 1) = true := bne_iff_ne.mpr c54
                      by_cases c83 : t220 = 2
                      · rw [if_pos c83] at H
                        have c83b0 : (t220 == 2) = true := beq_iff_eq.mpr c83
                        have c83b1 : (t220 != 2) = false := bne_eq_false_iff_eq.mpr c83
                        clear c83
                        replace H := Option.bind_eq_some_iff.mp H
                        obtain ⟨t240, A840, H⟩ := H
                        replace H : (if t224 = t240 then (some (t221 == 0)) else ((pte_Cause.f a4 false).bind fun t241 => (if t224 = t241 then (some (t221 == 0)) else (some false)))) = some r := H
                        have A84 := Aside0.mk A840
                        clear A840
                        by_cases c85 : t224 = t240
                        · rw [if_pos c85] at H
                          have c85b0 : (t224 == t240) = true := beq_iff_eq.mpr c85
                          have c85b1 : (t224 != t240) = false := bne_eq_false_iff_eq.mpr c85
                          clear c85
                          clear HRT
                          obtain rfl := Option.some.inj H
                          obtain ⟨Ao86, co86, eo86⟩ := Kd.R_slice HO_12.out
                          subst eo86
                          obtain ⟨Ao87, co87, eo87⟩ := Kd.R_slice HO_13.out
                          subst eo87
                          try go_wp2_with (first | ((with_reducible refine gate_callee (f := 21) rfl ?_); refine goesL_ (some 42) rfl rfl Try.func21 (by kernel_rfl) rfl #[.int .u32 a1, .int .i64 a2, .int .u32 a3, .int .i64 a4, .int .i64 (wrap64 (4 * (t217.length : Int))), .slice Ao87 x13_2.length co87] rfl (by (try simp only [List.map_toArray, List.map_cons, List.map_nil]); first | done | rfl | (simp only [List.length_drop, List.length_take]; rfl)) ?_; (with_reducible refine (walk_Next.calls k2 a1 a2 a3 a4 (wrap64 (4 * (t217.length : Int))) _ _ x13_2 t220 t221 t222 t223 t224 _ ?side1 ?side2 A15.out).mono ?_); (case side1 => repeat (first | exact (Kd.R_reads' HO_13.out).2.2 | (with_reducible refine Kd.C_alloc ?_ _) | (with_reducible refine Kd.C_drewN ?_ _) | (with_reducible refine Kd.C_drew ?_))); (case side2 => exact (Kd.R_reads' HO_13.out).2.1); rintro e w88 ⟨rfl, hb⟩; refine ⟨_, rfl, ?_⟩; have n0_ := Aside0.mk (Kd.R_below (by (with_reducible repeat (first | apply Kd.R_alloc | apply Kd.R_drewN | apply Kd.R_drew)); exact HO_12.out) hb); have n1_ := Aside0.mk (Kd.R_below (by (with_reducible repeat (first | apply Kd.R_alloc | apply Kd.R_drewN | apply Kd.R_drew)); exact HO_13.out) hb); have n2_ := Aside0.mk (below_step (by repeat (first | (with_reducible first | exact HB.out | apply below_alloc | apply pw_below_drewN | apply below_drew1) | exact HB.out)) hb); clear HO_12; clear HO_13; clear HB; have HO_12 := n0_; have HO_13 := n1_; have HB := n2_; clear n0_ n1_ n2_; (try clear hb); (try clear hb2); (try clear hk); (try clear hi)) | ((with_reducible refine gate_dst (N := 16) rfl ?_); (try (refine gate_guard (by rfl) ?_; dsimp only)); refine box_event ?hg (N := 16) ?hd (cs := #[.int .i64 0, .int .u32 0, .int .u32 0, .int .u32 0, .int .u32 0]) (t := 48) ?hr ?_; (case hd => rfl); (case hg => rfl); (case hr => first | (go_simp; done) | (go_simp; rfl)); intro gb225 hg w89 hbox hb; have n0_ := Aside0.mk (Kd.R_below (by (with_reducible repeat (first | apply Kd.R_alloc | apply Kd.R_drewN | apply Kd.R_drew)); exact HO_12.out) hb); have n1_ := Aside0.mk (Kd.R_below (by (with_reducible repeat (first | apply Kd.R_alloc | apply Kd.R_drewN | apply Kd.R_drew)); exact HO_13.out) hb); have n2_ := Aside0.mk (below_step (by repeat (first | (with_reducible first | exact HB.out | apply below_alloc | apply pw_below_drewN | apply below_drew1) | exact HB.out)) hb); have n3_ := Aside0.mk (hbox); have n4_ := Aside0.mk ((by rw [hg]; exact (below_size (by repeat (first | (with_reducible first | exact HB.out | apply below_alloc | apply pw_below_drewN | apply below_drew1) | exact HB.out))) : w.heap.size ≤ gb225)); have n5_ := Aside0.mk ((by rw [hg]; exact (below_size (by repeat (first | (with_reducible first | exact HB.out | apply below_alloc | apply pw_below_drewN | apply below_drew1) | exact HB.out))) : w.heap.size ≤ gb225)); clear HO_12; clear HO_13; clear HB; have HO_12 := n0_; have HO_13 := n1_; have HB := n2_; have BK225 := n3_; have GW225 := n4_; have GE225 := n5_; clear n0_ n1_ n2_ n3_ n4_ n5_; clear hb hbox hg; have hcz90_0 : w89.cell? ⟨gb225, 0, none⟩ = some (.int .i64 0) := (blk_cell BK225.out 0).trans rfl; have hcz90_1 : w89.cell? ⟨gb225, 1, none⟩ = some (.int .u32 0) := (blk_cell BK225.out 1).trans rfl; have hcz90_2 : w89.cell? ⟨gb225, 2, none⟩ = some (.int .u32 0) := (blk_cell BK225.out 2).trans rfl; have hcz90_3 : w89.cell? ⟨gb225, 3, none⟩ = some (.int .u32 0) := (blk_cell BK225.out 3).trans rfl; have hcz90_4 : w89.cell? ⟨gb225, 4, none⟩ = some (.int .u32 0) := (blk_cell BK225.out 4).trans rfl; have hfz90_0 := blk_frozen BK225.out 0; have hfz90_1 := blk_frozen BK225.out 1; have hfz90_2 := blk_frozen BK225.out 2; have hfz90_3 := blk_frozen BK225.out 3; have hfz90_4 := blk_frozen BK225.out 4))
                          have n0_ : Aside0 (Kd.R (Kd.int .u32) 23 (((((w89.setCell ⟨gb225, 0, none⟩ (.int .i64 t220)).setCell ⟨gb225, 1, none⟩ (.int .u32 t221)).setCell ⟨gb225, 2, none⟩ (.int .u32 t222)).setCell ⟨gb225, 3, none⟩ (.int .u32 t223)).setCell ⟨gb225, 4, none⟩ (.int .u32 t224)) w.heap.size (fun _ => True) (.slice Ao86 t217.length co86) t217) := ⟨by (with_reducible repeat (first | apply Kd.R_alloc | apply Kd.R_drewN | apply Kd.R_drew)); exact Kd.R_mono (Kd.R_far (p := ⟨gb225, 4, none⟩) (Kd.R_far (p := ⟨gb225, 3, none⟩) (Kd.R_far (p := ⟨gb225, 2, none⟩) (Kd.R_far (p := ⟨gb225, 1, none⟩) (Kd.R_far (p := ⟨gb225, 0, none⟩) (Kd.R_types HO_12.out BK225.out (by decide)) (fun _ hk => hk.2) (.int .i64 t220)) (fun _ hk => hk.2) (.int .u32 t221)) (fun _ hk => hk.2) (.int .u32 t222)) (fun _ hk => hk.2) (.int .u32 t223)) (fun _ hk => hk.2) (.int .u32 t224)) (fun _ hk => trivial)⟩
                          have n1_ : Aside0 (Kd.R k52 52 (((((w89.setCell ⟨gb225, 0, none⟩ (.int .i64 t220)).setCell ⟨gb225, 1, none⟩ (.int .u32 t221)).setCell ⟨gb225, 2, none⟩ (.int .u32 t222)).setCell ⟨gb225, 3, none⟩ (.int .u32 t223)).setCell ⟨gb225, 4, none⟩ (.int .u32 t224)) w.heap.size (fun _ => True) (.slice Ao87 x13_2.length co87) x13_2) := ⟨by (with_reducible repeat (first | apply Kd.R_alloc | apply Kd.R_drewN | apply Kd.R_drew)); exact Kd.R_mono (Kd.R_far (p := ⟨gb225, 4, none⟩) (Kd.R_far (p := ⟨gb225, 3, none⟩) (Kd.R_far (p := ⟨gb225, 2, none⟩) (Kd.R_far (p := ⟨gb225, 1, none⟩) (Kd.R_far (p := ⟨gb225, 0, none⟩) (Kd.R_types HO_13.out BK225.out (by decide)) (fun _ hk => hk.2) (.int .i64 t220)) (fun _ hk => hk.2) (.int .u32 t221)) (fun _ hk => hk.2) (.int .u32 t222)) (fun _ hk => hk.2) (.int .u32 t223)) (fun _ hk => hk.2) (.int .u32 t224)) (fun _ hk => trivial)⟩
                          have n2_ : Aside0 ((((((w89.setCell ⟨gb225, 0, none⟩ (.int .i64 t220)).setCell ⟨gb225, 1, none⟩ (.int .u32 t221)).setCell ⟨gb225, 2, none⟩ (.int .u32 t222)).setCell ⟨gb225, 3, none⟩ (.int .u32 t223)).setCell ⟨gb225, 4, none⟩ (.int .u32 t224)).heap[gb225]? = some (.cells #[.int .i64 t220, .int .u32 t221, .int .u32 t222, .int .u32 t223, .int .u32 t224] 48 (0, 0))) := ⟨by (with_reducible repeat (first | refine blk_drewN ?_ _ | refine blk_drew ?_ | refine blk_alloc ?_ _)); refine blk_put (cs := #[.int .i64 t220, .int .u32 t221, .int .u32 t222, .int .u32 t223, .int .u32 0]) ?_ 4 _ rfl; (with_reducible repeat (first | refine blk_drewN ?_ _ | refine blk_drew ?_ | refine blk_alloc ?_ _)); refine blk_put (cs := #[.int .i64 t220, .int .u32 t221, .int .u32 t222, .int .u32 0, .int .u32 0]) ?_ 3 _ rfl; (with_reducible repeat (first | refine blk_drewN ?_ _ | refine blk_drew ?_ | refine blk_alloc ?_ _)); refine blk_put (cs := #[.int .i64 t220, .int .u32 t221, .int .u32 0, .int .u32 0, .int .u32 0]) ?_ 2 _ rfl; (with_reducible repeat (first | refine blk_drewN ?_ _ | refine blk_drew ?_ | refine blk_alloc ?_ _)); refine blk_put (cs := #[.int .i64 t220, .int .u32 0, .int .u32 0, .int .u32 0, .int .u32 0]) ?_ 1 _ rfl; (with_reducible repeat (first | refine blk_drewN ?_ _ | refine blk_drew ?_ | refine blk_alloc ?_ _)); refine blk_put (cs := #[.int .i64 0, .int .u32 0, .int .u32 0, .int .u32 0, .int .u32 0]) ?_ 0 _ rfl; (with_reducible repeat (first | refine blk_drewN ?_ _ | refine blk_drew ?_ | refine blk_alloc ?_ _)); exact BK225.out⟩
                          have n3_ : Aside0 (Below w.heap.size w (((((w89.setCell ⟨gb225, 0, none⟩ (.int .i64 t220)).setCell ⟨gb225, 1, none⟩ (.int .u32 t221)).setCell ⟨gb225, 2, none⟩ (.int .u32 t222)).setCell ⟨gb225, 3, none⟩ (.int .u32 t223)).setCell ⟨gb225, 4, none⟩ (.int .u32 t224))) := ⟨by repeat (first | (with_reducible first | exact HB.out | apply below_alloc | apply pw_below_drewN | apply below_drew1 | refine below_set ?_ GE225.out) | exact HB.out)⟩
                          (try clear HO_12)
                          (try clear HO_13)
                          (try clear BK225)
                          (try clear HB)
                          generalize (((((w89.setCell ⟨gb225, 0, none⟩ (.int .i64 t220)).setCell ⟨gb225, 1, none⟩ (.int .u32 t221)).setCell ⟨gb225, 2, none⟩ (.int .u32 t222)).setCell ⟨gb225, 3, none⟩ (.int .u32 t223)).setCell ⟨gb225, 4, none⟩ (.int .u32 t224)) = w91 at n0_ n1_ n2_ n3_ ⊢
                          have HO_12 := n0_
                          have HO_13 := n1_
                          have BK225 := n2_
                          have HB := n3_
                          clear n0_ n1_ n2_ n3_
                          have n0_ := Aside0.mk (Kd.R_drew HO_12.out)
                          have n1_ := Aside0.mk (Kd.R_drew HO_13.out)
                          have n2_ := Aside0.mk (blk_drew BK225.out)
                          have n3_ := Aside0.mk (below_drew1 HB.out)
                          clear HO_12
                          clear HO_13
                          clear BK225
                          clear HB
                          have HO_12 := n0_
                          have HO_13 := n1_
                          have BK225 := n2_
                          have HB := n3_
                          clear n0_ n1_ n2_ n3_
                          refine start_ (n := 23) (S := fun w' => w'.cell? ⟨gb225, 0, none⟩ = some (.int .i64 t220) ∧ w'.cell? ⟨gb225, 1, none⟩ = some (.int .u32 t221) ∧ w'.cell? ⟨gb225, 2, none⟩ = some (.int .u32 t222) ∧ w'.cell? ⟨gb225, 3, none⟩ = some (.int .u32 t223) ∧ w'.cell? ⟨gb225, 4, none⟩ = some (.int .u32 t224)) (ds := []) #[false, false, false, false, false, false, false, false, false, false, false, false, false, false, false, false, false, false, false, false, false, false, false] (by kernel_rfl) rfl rfl ⟨(blk_cell BK225.out 0).trans rfl, (blk_cell BK225.out 1).trans rfl, (blk_cell BK225.out 2).trans rfl, (blk_cell BK225.out 3).trans rfl, (blk_cell BK225.out 4).trans rfl⟩ (fun hHeld => ?_); refine with_tabW corrallaw9_WalkEnds.tab14 corrallaw9_WalkEnds.bits14 (fun HT_ HW_ => ?_)
                          generalize w91.drew = w92 at HO_12 HO_13 BK225 HB hHeld ⊢
                          refine pure_ (i := 0) (N := some 45) (v := ?_) (a' := ?_) #[true, false, false, false, false, false, false, false, false, false, false, false, false, false, false, false, false, false, false, false, false, false, false] rfl rfl (any_of HT_.out (by kernel_rfl)) (fun _ _ _ h => h) (Or.inl ⟨by rfl, ?_⟩) ?_ ?_
                          rotate_left
                          · intro w'
                            go_simp
                            with_reducible rfl
                          rotate_left
                          · simp only [Act.put, List.setIfInBounds_toArray, List.set_cons_zero, List.set_cons_succ, i64_w, i32_w]
                            rfl
                          refine take_ (i := 1) (N := some 46) (v := ?_) (a' := ?_) #[true, true, false, false, false, false, false, false, false, false, false, false, false, false, false, false, false, false, false, false, false, false, false] rfl rfl (take_ofW HT_.out HW_.out (by kernel_rfl)) (fun _ _ _ h => h) (Or.inl ⟨by rfl, ?_⟩) hHeld ?_ ?_
                          rotate_left
                          · rintro w' ⟨s0, s1, s2, s3, s4⟩
                            go_simp
                            with_reducible rfl
                          rotate_left
                          · simp only [Act.put, List.setIfInBounds_toArray, List.set_cons_zero, List.set_cons_succ, i64_w, i32_w]
                            rfl
                          refine pure_ (i := 2) (N := some 47) (v := ?_) (a' := ?_) #[true, true, true, false, false, false, false, false, false, false, false, false, false, false, false, false, false, false, false, false, false, false, false] rfl rfl (any_of HT_.out (by kernel_rfl)) (fun _ _ _ h => h) (Or.inl ⟨by rfl, ?_⟩) ?_ ?_
                          rotate_left
                          · intro w'
                            go_simp
                            with_reducible rfl
                          rotate_left
                          · simp only [Act.put, List.setIfInBounds_toArray, List.set_cons_zero, List.set_cons_succ, i64_w, i32_w]
                            rfl
                          refine pure_ (i := 3) (N := some 48) (v := ?_) (a' := ?_) #[true, true, true, true, false, false, false, false, false, false, false, false, false, false, false, false, false, false, false, false, false, false, false] rfl rfl (any_of HT_.out (by kernel_rfl)) (fun _ _ _ h => h) (Or.inl ⟨by rfl, ?_⟩) ?_ ?_
                          rotate_left
                          · intro w'
                            go_simp
                            with_reducible rfl
                          rotate_left
                          · simp only [Act.put, List.setIfInBounds_toArray, List.set_cons_zero, List.set_cons_succ, i64_w, i32_w]
                            rfl
                          refine pure_ (i := 4) (N := some 49) (v := ?_) (a' := ?_) #[true, true, true, true, true, false, false, false, false, false, false, false, false, false, false, false, false, false, false, false, false, false, false] rfl rfl (any_of HT_.out (by kernel_rfl)) (fun _ _ _ h => h) (Or.inl ⟨by rfl, ?_⟩) ?_ ?_
                          rotate_left
                          · intro w'
                            go_simp
                            with_reducible rfl
                          rotate_left
                          · simp only [Act.put, List.setIfInBounds_toArray, List.set_cons_zero, List.set_cons_succ, i64_w, i32_w]
                            rfl
                          refine pure_ (i := 6) (N := some 51) (v := ?_) (a' := ?_) #[true, true, true, true, true, false, true, false, false, false, false, false, false, false, false, false, false, false, false, false, false, false, false] rfl rfl (any_of HT_.out (by kernel_rfl)) (fun _ _ _ h => h) (Or.inl ⟨by rfl, ?_⟩) ?_ ?_
                          rotate_left
                          · intro w'
                            go_simp
                            with_reducible rfl
                          rotate_left
                          · simp only [Act.put, List.setIfInBounds_toArray, List.set_cons_zero, List.set_cons_succ, i64_w, i32_w]
                            rfl
                          refine take_ (i := 5) (N := some 50) (v := ?_) (a' := ?_) #[true, true, true, true, true, true, true, false, false, false, false, false, false, false, false, false, false, false, false, false, false, false, false] rfl rfl (take_ofW HT_.out HW_.out (by kernel_rfl)) (fun _ _ _ h => h) (Or.inl ⟨by rfl, ?_⟩) hHeld ?_ ?_
                          rotate_left
                          · rintro w' ⟨s0, s1, s2, s3, s4⟩
                            go_simp
                            with_reducible rfl
                          rotate_left
                          · simp only [Act.put, List.setIfInBounds_toArray, List.set_cons_zero, List.set_cons_succ, i64_w, i32_w]
                            rfl
                          refine one_ (i := 7) (N := some 52) #[true, true, true, true, true, true, true, true, false, false, false, false, false, false, false, false, false, false, false, false, false, false, false] rfl rfl (one_of HT_.out (by kernel_rfl)) (by decide) (fun K hK => ?_)
                          refine goes_ Try.func25 (by kernel_rfl) rfl #[.int .i64 a4, .bool true] (by rfl) rfl rfl (by (try simp only [List.map_toArray, List.map_cons, List.map_nil]); first | done | rfl | (simp only [List.length_drop, List.length_take]; rfl)) ?_
                          with_reducible refine (pte_Cause.calls a4 true t240 _ A84.out).mono ?_
                          rintro e w' ⟨rfl, ⟨nd, rfl⟩⟩
                          refine ⟨_, rfl, ?_⟩
                          refine hK.out _ _ ⟨(blk_cell BK225.out 0).trans rfl, (blk_cell BK225.out 1).trans rfl, (blk_cell BK225.out 2).trans rfl, (blk_cell BK225.out 3).trans rfl, (blk_cell BK225.out 4).trans rfl⟩ (fun hHeld => ?_)
                          clear hK K
                          refine norm_ (a' := ?_) ?_ ?_
                          rotate_left
                          · show Act.put _ (some 52) _ = _
                            simp only [Act.put, List.setIfInBounds_toArray, List.set_cons_zero, List.set_cons_succ, i64_w, i32_w]
                            rfl
                          refine pure_ (i := 8) (N := some 53) (v := ?_) (a' := ?_) #[true, true, true, true, true, true, true, true, true, false, false, false, false, false, false, false, false, false, false, false, false, false, false] rfl rfl (any_of HT_.out (by kernel_rfl)) (fun _ _ _ h => h) (Or.inl ⟨by rfl, ?_⟩) ?_ ?_
                          rotate_left
                          · intro w'
                            go_simp
                            with_reducible rfl
                          rotate_left
                          · simp only [Act.put, List.setIfInBounds_toArray, List.set_cons_zero, List.set_cons_succ, i64_w, i32_w]
                            rfl
                          refine pure_ (i := 9) (N := some 54) (v := ?_) (a' := ?_) #[true, true, true, true, true, true, true, true, true, true, false, false, false, false, false, false, false, false, false, false, false, false, false] rfl rfl (any_of HT_.out (by kernel_rfl)) (fun _ _ _ h => h) (Or.inl ⟨by rfl, ?_⟩) ?_ ?_
                          rotate_left
                          · intro w'
                            go_simp
                            with_reducible rfl
                          rotate_left
                          · simp only [Act.put, List.setIfInBounds_toArray, List.set_cons_zero, List.set_cons_succ, i64_w, i32_w]
                            rfl
                          refine pure_ (i := 10) (N := some 55) (v := undef) (a' := ?_) #[true, true, true, true, true, true, true, true, true, true, true, false, false, false, false, false, false, false, false, false, false, false, false] rfl rfl (any_of HT_.out (by kernel_rfl)) (fun _ _ _ h => h) (Or.inr ⟨by rfl, rfl⟩) ?_ ?_
                          rotate_left
                          · simp only [Act.put, List.setIfInBounds_toArray, List.set_cons_zero, List.set_cons_succ, i64_w, i32_w]
                            rfl
                          refine pure_ (i := 11) (N := some 56) (v := undef) (a' := ?_) #[true, true, true, true, true, true, true, true, true, true, true, true, false, false, false, false, false, false, false, false, false, false, false] rfl rfl (any_of HT_.out (by kernel_rfl)) (fun _ _ _ h => h) (Or.inr ⟨by rfl, rfl⟩) ?_ ?_
                          rotate_left
                          · simp only [Act.put, List.setIfInBounds_toArray, List.set_cons_zero, List.set_cons_succ, i64_w, i32_w]
                            rfl
                          refine pure_ (i := 12) (N := some 57) (v := undef) (a' := ?_) #[true, true, true, true, true, true, true, true, true, true, true, true, true, false, false, false, false, false, false, false, false, false, false] rfl rfl (any_of HT_.out (by kernel_rfl)) (fun _ _ _ h => h) (Or.inr ⟨by rfl, rfl⟩) ?_ ?_
                          rotate_left
                          · simp only [Act.put, List.setIfInBounds_toArray, List.set_cons_zero, List.set_cons_succ, i64_w, i32_w]
                            rfl
                          refine pure_ (i := 13) (N := some 58) (v := undef) (a' := ?_) #[true, true, true, true, true, true, true, true, true, true, true, true, true, true, false, false, false, false, false, false, false, false, false] rfl rfl (any_of HT_.out (by kernel_rfl)) (fun _ _ _ h => h) (Or.inr ⟨by rfl, rfl⟩) ?_ ?_
                          rotate_left
                          · simp only [Act.put, List.setIfInBounds_toArray, List.set_cons_zero, List.set_cons_succ, i64_w, i32_w]
                            rfl
                          refine pure_ (i := 14) (N := some 59) (v := undef) (a' := ?_) #[true, true, true, true, true, true, true, true, true, true, true, true, true, true, true, false, false, false, false, false, false, false, false] rfl rfl (any_of HT_.out (by kernel_rfl)) (fun _ _ _ h => h) (Or.inr ⟨by rfl, rfl⟩) ?_ ?_
                          rotate_left
                          · simp only [Act.put, List.setIfInBounds_toArray, List.set_cons_zero, List.set_cons_succ, i64_w, i32_w]
                            rfl
                          refine pure_ (i := 15) (N := some 60) (v := ?_) (a' := ?_) #[true, true, true, true, true, true, true, true, true, true, true, true, true, true, true, true, false, false, false, false, false, false, false] rfl rfl (any_of HT_.out (by kernel_rfl)) (fun _ _ _ h => h) (Or.inl ⟨by rfl, ?_⟩) ?_ ?_
                          rotate_left
                          · intro w'
                            go_simp
                            with_reducible rfl
                          rotate_left
                          · simp only [Act.put, List.setIfInBounds_toArray, List.set_cons_zero, List.set_cons_succ, i64_w, i32_w]
                            rfl
                          refine pure_ (i := 16) (N := some 61) (v := ?_) (a' := ?_) #[true, true, true, true, true, true, true, true, true, true, true, true, true, true, true, true, true, false, false, false, false, false, false] rfl rfl (any_of HT_.out (by kernel_rfl)) (fun _ _ _ h => h) (Or.inl ⟨by rfl, ?_⟩) ?_ ?_
                          rotate_left
                          · intro w'
                            go_simp
                            with_reducible rfl
                          rotate_left
                          · simp only [Act.put, List.setIfInBounds_toArray, List.set_cons_zero, List.set_cons_succ, i64_w, i32_w]
                            rfl
                          refine pure_ (i := 17) (N := some 62) (v := ?_) (a' := ?_) #[true, true, true, true, true, true, true, true, true, true, true, true, true, true, true, true, true, true, false, false, false, false, false] rfl rfl (any_of HT_.out (by kernel_rfl)) (fun _ _ _ h => h) (Or.inl ⟨by rfl, ?_⟩) ?_ ?_
                          rotate_left
                          · intro w'
                            go_simp
                            with_reducible rfl
                          rotate_left
                          · simp only [Act.put, List.setIfInBounds_toArray, List.set_cons_zero, List.set_cons_succ, i64_w, i32_w]
                            rfl
                          refine pure_ (i := 18) (N := some 63) (v := ?_) (a' := ?_) #[true, true, true, true, true, true, true, true, true, true, true, true, true, true, true, true, true, true, true, false, false, false, false] rfl rfl (any_of HT_.out (by kernel_rfl)) (fun _ _ _ h => h) (Or.inl ⟨by rfl, ?_⟩) ?_ ?_
                          rotate_left
                          · intro w'
                            go_simp
                            with_reducible rfl
                          rotate_left
                          · simp only [Act.put, List.setIfInBounds_toArray, List.set_cons_zero, List.set_cons_succ, i64_w, i32_w]
                            rfl
                          refine take_ (i := 19) (N := some 64) (v := ?_) (a' := ?_) #[true, true, true, true, true, true, true, true, true, true, true, true, true, true, true, true, true, true, true, true, false, false, false] rfl rfl (take_ofW HT_.out HW_.out (by kernel_rfl)) (fun _ _ _ h => h) (Or.inl ⟨by rfl, ?_⟩) hHeld ?_ ?_
                          rotate_left
                          · rintro w' ⟨s0, s1, s2, s3, s4⟩
                            go_simp
                            with_reducible rfl
                          rotate_left
                          · simp only [Act.put, List.setIfInBounds_toArray, List.set_cons_zero, List.set_cons_succ, i64_w, i32_w]
                            rfl
                          refine pure_ (i := 20) (N := some 65) (v := ?_) (a' := ?_) #[true, true, true, true, true, true, true, true, true, true, true, true, true, true, true, true, true, true, true, true, true, false, false] rfl rfl (any_of HT_.out (by kernel_rfl)) (fun _ _ _ h => h) (Or.inl ⟨by rfl, ?_⟩) ?_ ?_
                          rotate_left
                          · intro w'
                            go_simp
                            with_reducible rfl
                          rotate_left
                          · simp only [Act.put, List.setIfInBounds_toArray, List.set_cons_zero, List.set_cons_succ, i64_w, i32_w]
                            rfl
                          refine pure_ (i := 21) (N := some 66) (v := ?_) (a' := ?_) #[true, true, true, true, true, true, true, true, true, true, true, true, true, true, true, true, true, true, true, true, true, true, false] rfl rfl (any_of HT_.out (by kernel_rfl)) (fun _ _ _ h => h) (Or.inl ⟨by rfl, ?_⟩) ?_ ?_
                          rotate_left
                          · intro w'
                            go_simp
                            with_reducible rfl
                          rotate_left
                          · simp only [Act.put, List.setIfInBounds_toArray, List.set_cons_zero, List.set_cons_succ, i64_w, i32_w]
                            rfl
                          refine pure_ (i := 22) (N := some 10) (v := ?_) (a' := ?_) #[true, true, true, true, true, true, true, true, true, true, true, true, true, true, true, true, true, true, true, true, true, true, true] rfl rfl (any_of HT_.out (by kernel_rfl)) (fun _ _ _ h => h) (Or.inl ⟨by rfl, ?_⟩) ?_ ?_
                          rotate_left
                          · intro w'
                            go_simp
                            with_reducible rfl
                          rotate_left
                          · simp only [Act.put, List.setIfInBounds_toArray, List.set_cons_zero, List.set_cons_succ, i64_w, i32_w]
                            rfl
                          refine done_ (done_of HT_.out (by kernel_rfl)) ?_
                          try go_wp2
                          go_ret
                          exact ⟨by first | rfl | (simp [errW_none, errW_some] <;> rfl) | (simp [*, errW_none, errW_some] <;> rfl), by repeat (first | (with_reducible first | exact HB.out | apply below_alloc | apply pw_below_drewN | apply below_drew1 | refine below_set ?_ GE225.out) | exact HB.out)⟩
                        · rw [if_neg c85] at H
                          have c85b0 : (t224 == t240) = false := beq_eq_false_iff_ne.mpr c85
                          have c85b1 : (t224 != t240) = true := bne_iff_ne.mpr c85
                          replace H := Option.bind_eq_some_iff.mp H
                          obtain ⟨t241, A930, H⟩ := H
                          replace H : (if t224 = t241 then (some (t221 == 0)) else (some false)) = some r := H
                          have A93 := Aside0.mk A930
                          clear A930
                          by_cases c94 : t224 = t241
                          · rw [if_pos c94] at H
                            have c94b0 : (t224 == t241) = true := beq_iff_eq.mpr c94
                            have c94b1 : (t224 != t241) = false := bne_eq_false_iff_eq.mpr c94
                            clear c94
                            clear HRT
                            obtain rfl := Option.some.inj H
                            obtain ⟨Ao95, co95, eo95⟩ := Kd.R_slice HO_12.out
                            subst eo95
                            obtain ⟨Ao96, co96, eo96⟩ := Kd.R_slice HO_13.out
                            subst eo96
                            try go_wp2_with (first | ((with_reducible refine gate_callee (f := 21) rfl ?_); refine goesL_ (some 42) rfl rfl Try.func21 (by kernel_rfl) rfl #[.int .u32 a1, .int .i64 a2, .int .u32 a3, .int .i64 a4, .int .i64 (wrap64 (4 * (t217.length : Int))), .slice Ao96 x13_2.length co96] rfl (by (try simp only [List.map_toArray, List.map_cons, List.map_nil]); first | done | rfl | (simp only [List.length_drop, List.length_take]; rfl)) ?_; (with_reducible refine (walk_Next.calls k2 a1 a2 a3 a4 (wrap64 (4 * (t217.length : Int))) _ _ x13_2 t220 t221 t222 t223 t224 _ ?side1 ?side2 A15.out).mono ?_); (case side1 => repeat (first | exact (Kd.R_reads' HO_13.out).2.2 | (with_reducible refine Kd.C_alloc ?_ _) | (with_reducible refine Kd.C_drewN ?_ _) | (with_reducible refine Kd.C_drew ?_))); (case side2 => exact (Kd.R_reads' HO_13.out).2.1); rintro e w97 ⟨rfl, hb⟩; refine ⟨_, rfl, ?_⟩; have n0_ := Aside0.mk (Kd.R_below (by (with_reducible repeat (first | apply Kd.R_alloc | apply Kd.R_drewN | apply Kd.R_drew)); exact HO_12.out) hb); have n1_ := Aside0.mk (Kd.R_below (by (with_reducible repeat (first | apply Kd.R_alloc | apply Kd.R_drewN | apply Kd.R_drew)); exact HO_13.out) hb); have n2_ := Aside0.mk (below_step (by repeat (first | (with_reducible first | exact HB.out | apply below_alloc | apply pw_below_drewN | apply below_drew1) | exact HB.out)) hb); clear HO_12; clear HO_13; clear HB; have HO_12 := n0_; have HO_13 := n1_; have HB := n2_; clear n0_ n1_ n2_; (try clear hb); (try clear hb2); (try clear hk); (try clear hi)) | ((with_reducible refine gate_dst (N := 16) rfl ?_); (try (refine gate_guard (by rfl) ?_; dsimp only)); refine box_event ?hg (N := 16) ?hd (cs := #[.int .i64 0, .int .u32 0, .int .u32 0, .int .u32 0, .int .u32 0]) (t := 48) ?hr ?_; (case hd => rfl); (case hg => rfl); (case hr => first | (go_simp; done) | (go_simp; rfl)); intro gb225 hg w98 hbox hb; have n0_ := Aside0.mk (Kd.R_below (by (with_reducible repeat (first | apply Kd.R_alloc | apply Kd.R_drewN | apply Kd.R_drew)); exact HO_12.out) hb); have n1_ := Aside0.mk (Kd.R_below (by (with_reducible repeat (first | apply Kd.R_alloc | apply Kd.R_drewN | apply Kd.R_drew)); exact HO_13.out) hb); have n2_ := Aside0.mk (below_step (by repeat (first | (with_reducible first | exact HB.out | apply below_alloc | apply pw_below_drewN | apply below_drew1) | exact HB.out)) hb); have n3_ := Aside0.mk (hbox); have n4_ := Aside0.mk ((by rw [hg]; exact (below_size (by repeat (first | (with_reducible first | exact HB.out | apply below_alloc | apply pw_below_drewN | apply below_drew1) | exact HB.out))) : w.heap.size ≤ gb225)); have n5_ := Aside0.mk ((by rw [hg]; exact (below_size (by repeat (first | (with_reducible first | exact HB.out | apply below_alloc | apply pw_below_drewN | apply below_drew1) | exact HB.out))) : w.heap.size ≤ gb225)); clear HO_12; clear HO_13; clear HB; have HO_12 := n0_; have HO_13 := n1_; have HB := n2_; have BK225 := n3_; have GW225 := n4_; have GE225 := n5_; clear n0_ n1_ n2_ n3_ n4_ n5_; clear hb hbox hg; have hcz99_0 : w98.cell? ⟨gb225, 0, none⟩ = some (.int .i64 0) := (blk_cell BK225.out 0).trans rfl; have hcz99_1 : w98.cell? ⟨gb225, 1, none⟩ = some (.int .u32 0) := (blk_cell BK225.out 1).trans rfl; have hcz99_2 : w98.cell? ⟨gb225, 2, none⟩ = some (.int .u32 0) := (blk_cell BK225.out 2).trans rfl; have hcz99_3 : w98.cell? ⟨gb225, 3, none⟩ = some (.int .u32 0) := (blk_cell BK225.out 3).trans rfl; have hcz99_4 : w98.cell? ⟨gb225, 4, none⟩ = some (.int .u32 0) := (blk_cell BK225.out 4).trans rfl; have hfz99_0 := blk_frozen BK225.out 0; have hfz99_1 := blk_frozen BK225.out 1; have hfz99_2 := blk_frozen BK225.out 2; have hfz99_3 := blk_frozen BK225.out 3; have hfz99_4 := blk_frozen BK225.out 4))
                            have n0_ : Aside0 (Kd.R (Kd.int .u32) 23 (((((w98.setCell ⟨gb225, 0, none⟩ (.int .i64 t220)).setCell ⟨gb225, 1, none⟩ (.int .u32 t221)).setCell ⟨gb225, 2, none⟩ (.int .u32 t222)).setCell ⟨gb225, 3, none⟩ (.int .u32 t223)).setCell ⟨gb225, 4, none⟩ (.int .u32 t224)) w.heap.size (fun _ => True) (.slice Ao95 t217.length co95) t217) := ⟨by (with_reducible repeat (first | apply Kd.R_alloc | apply Kd.R_drewN | apply Kd.R_drew)); exact Kd.R_mono (Kd.R_far (p := ⟨gb225, 4, none⟩) (Kd.R_far (p := ⟨gb225, 3, none⟩) (Kd.R_far (p := ⟨gb225, 2, none⟩) (Kd.R_far (p := ⟨gb225, 1, none⟩) (Kd.R_far (p := ⟨gb225, 0, none⟩) (Kd.R_types HO_12.out BK225.out (by decide)) (fun _ hk => hk.2) (.int .i64 t220)) (fun _ hk => hk.2) (.int .u32 t221)) (fun _ hk => hk.2) (.int .u32 t222)) (fun _ hk => hk.2) (.int .u32 t223)) (fun _ hk => hk.2) (.int .u32 t224)) (fun _ hk => trivial)⟩
                            have n1_ : Aside0 (Kd.R k52 52 (((((w98.setCell ⟨gb225, 0, none⟩ (.int .i64 t220)).setCell ⟨gb225, 1, none⟩ (.int .u32 t221)).setCell ⟨gb225, 2, none⟩ (.int .u32 t222)).setCell ⟨gb225, 3, none⟩ (.int .u32 t223)).setCell ⟨gb225, 4, none⟩ (.int .u32 t224)) w.heap.size (fun _ => True) (.slice Ao96 x13_2.length co96) x13_2) := ⟨by (with_reducible repeat (first | apply Kd.R_alloc | apply Kd.R_drewN | apply Kd.R_drew)); exact Kd.R_mono (Kd.R_far (p := ⟨gb225, 4, none⟩) (Kd.R_far (p := ⟨gb225, 3, none⟩) (Kd.R_far (p := ⟨gb225, 2, none⟩) (Kd.R_far (p := ⟨gb225, 1, none⟩) (Kd.R_far (p := ⟨gb225, 0, none⟩) (Kd.R_types HO_13.out BK225.out (by decide)) (fun _ hk => hk.2) (.int .i64 t220)) (fun _ hk => hk.2) (.int .u32 t221)) (fun _ hk => hk.2) (.int .u32 t222)) (fun _ hk => hk.2) (.int .u32 t223)) (fun _ hk => hk.2) (.int .u32 t224)) (fun _ hk => trivial)⟩
                            have n2_ : Aside0 ((((((w98.setCell ⟨gb225, 0, none⟩ (.int .i64 t220)).setCell ⟨gb225, 1, none⟩ (.int .u32 t221)).setCell ⟨gb225, 2, none⟩ (.int .u32 t222)).setCell ⟨gb225, 3, none⟩ (.int .u32 t223)).setCell ⟨gb225, 4, none⟩ (.int .u32 t224)).heap[gb225]? = some (.cells #[.int .i64 t220, .int .u32 t221, .int .u32 t222, .int .u32 t223, .int .u32 t224] 48 (0, 0))) := ⟨by (with_reducible repeat (first | refine blk_drewN ?_ _ | refine blk_drew ?_ | refine blk_alloc ?_ _)); refine blk_put (cs := #[.int .i64 t220, .int .u32 t221, .int .u32 t222, .int .u32 t223, .int .u32 0]) ?_ 4 _ rfl; (with_reducible repeat (first | refine blk_drewN ?_ _ | refine blk_drew ?_ | refine blk_alloc ?_ _)); refine blk_put (cs := #[.int .i64 t220, .int .u32 t221, .int .u32 t222, .int .u32 0, .int .u32 0]) ?_ 3 _ rfl; (with_reducible repeat (first | refine blk_drewN ?_ _ | refine blk_drew ?_ | refine blk_alloc ?_ _)); refine blk_put (cs := #[.int .i64 t220, .int .u32 t221, .int .u32 0, .int .u32 0, .int .u32 0]) ?_ 2 _ rfl; (with_reducible repeat (first | refine blk_drewN ?_ _ | refine blk_drew ?_ | refine blk_alloc ?_ _)); refine blk_put (cs := #[.int .i64 t220, .int .u32 0, .int .u32 0, .int .u32 0, .int .u32 0]) ?_ 1 _ rfl; (with_reducible repeat (first | refine blk_drewN ?_ _ | refine blk_drew ?_ | refine blk_alloc ?_ _)); refine blk_put (cs := #[.int .i64 0, .int .u32 0, .int .u32 0, .int .u32 0, .int .u32 0]) ?_ 0 _ rfl; (with_reducible repeat (first | refine blk_drewN ?_ _ | refine blk_drew ?_ | refine blk_alloc ?_ _)); exact BK225.out⟩
                            have n3_ : Aside0 (Below w.heap.size w (((((w98.setCell ⟨gb225, 0, none⟩ (.int .i64 t220)).setCell ⟨gb225, 1, none⟩ (.int .u32 t221)).setCell ⟨gb225, 2, none⟩ (.int .u32 t222)).setCell ⟨gb225, 3, none⟩ (.int .u32 t223)).setCell ⟨gb225, 4, none⟩ (.int .u32 t224))) := ⟨by repeat (first | (with_reducible first | exact HB.out | apply below_alloc | apply pw_below_drewN | apply below_drew1 | refine below_set ?_ GE225.out) | exact HB.out)⟩
                            (try clear HO_12)
                            (try clear HO_13)
                            (try clear BK225)
                            (try clear HB)
                            generalize (((((w98.setCell ⟨gb225, 0, none⟩ (.int .i64 t220)).setCell ⟨gb225, 1, none⟩ (.int .u32 t221)).setCell ⟨gb225, 2, none⟩ (.int .u32 t222)).setCell ⟨gb225, 3, none⟩ (.int .u32 t223)).setCell ⟨gb225, 4, none⟩ (.int .u32 t224)) = w100 at n0_ n1_ n2_ n3_ ⊢
                            have HO_12 := n0_
                            have HO_13 := n1_
                            have BK225 := n2_
                            have HB := n3_
                            clear n0_ n1_ n2_ n3_
                            have n0_ := Aside0.mk (Kd.R_drew HO_12.out)
                            have n1_ := Aside0.mk (Kd.R_drew HO_13.out)
                            have n2_ := Aside0.mk (blk_drew BK225.out)
                            have n3_ := Aside0.mk (below_drew1 HB.out)
                            clear HO_12
                            clear HO_13
                            clear BK225
                            clear HB
                            have HO_12 := n0_
                            have HO_13 := n1_
                            have BK225 := n2_
                            have HB := n3_
                            clear n0_ n1_ n2_ n3_
                            refine start_ (n := 23) (S := fun w' => w'.cell? ⟨gb225, 0, none⟩ = some (.int .i64 t220) ∧ w'.cell? ⟨gb225, 1, none⟩ = some (.int .u32 t221) ∧ w'.cell? ⟨gb225, 2, none⟩ = some (.int .u32 t222) ∧ w'.cell? ⟨gb225, 3, none⟩ = some (.int .u32 t223) ∧ w'.cell? ⟨gb225, 4, none⟩ = some (.int .u32 t224)) (ds := []) #[false, false, false, false, false, false, false, false, false, false, false, false, false, false, false, false, false, false, false, false, false, false, false] (by kernel_rfl) rfl rfl ⟨(blk_cell BK225.out 0).trans rfl, (blk_cell BK225.out 1).trans rfl, (blk_cell BK225.out 2).trans rfl, (blk_cell BK225.out 3).trans rfl, (blk_cell BK225.out 4).trans rfl⟩ (fun hHeld => ?_); refine with_tabW corrallaw9_WalkEnds.tab14 corrallaw9_WalkEnds.bits14 (fun HT_ HW_ => ?_)
                            generalize w100.drew = w101 at HO_12 HO_13 BK225 HB hHeld ⊢
                            refine pure_ (i := 0) (N := some 45) (v := ?_) (a' := ?_) #[true, false, false, false, false, false, false, false, false, false, false, false, false, false, false, false, false, false, false, false, false, false, false] rfl rfl (any_of HT_.out (by kernel_rfl)) (fun _ _ _ h => h) (Or.inl ⟨by rfl, ?_⟩) ?_ ?_
                            rotate_left
                            · intro w'
                              go_simp
                              with_reducible rfl
                            rotate_left
                            · simp only [Act.put, List.setIfInBounds_toArray, List.set_cons_zero, List.set_cons_succ, i64_w, i32_w]
                              rfl
                            refine take_ (i := 1) (N := some 46) (v := ?_) (a' := ?_) #[true, true, false, false, false, false, false, false, false, false, false, false, false, false, false, false, false, false, false, false, false, false, false] rfl rfl (take_ofW HT_.out HW_.out (by kernel_rfl)) (fun _ _ _ h => h) (Or.inl ⟨by rfl, ?_⟩) hHeld ?_ ?_
                            rotate_left
                            · rintro w' ⟨s0, s1, s2, s3, s4⟩
                              go_simp
                              with_reducible rfl
                            rotate_left
                            · simp only [Act.put, List.setIfInBounds_toArray, List.set_cons_zero, List.set_cons_succ, i64_w, i32_w]
                              rfl
                            refine pure_ (i := 2) (N := some 47) (v := ?_) (a' := ?_) #[true, true, true, false, false, false, false, false, false, false, false, false, false, false, false, false, false, false, false, false, false, false, false] rfl rfl (any_of HT_.out (by kernel_rfl)) (fun _ _ _ h => h) (Or.inl ⟨by rfl, ?_⟩) ?_ ?_
                            rotate_left
                            · intro w'
                              go_simp
                              with_reducible rfl
                            rotate_left
                            · simp only [Act.put, List.setIfInBounds_toArray, List.set_cons_zero, List.set_cons_succ, i64_w, i32_w]
                              rfl
                            refine pure_ (i := 3) (N := some 48) (v := ?_) (a' := ?_) #[true, true, true, true, false, false, false, false, false, false, false, false, false, false, false, false, false, false, false, false, false, false, false] rfl rfl (any_of HT_.out (by kernel_rfl)) (fun _ _ _ h => h) (Or.inl ⟨by rfl, ?_⟩) ?_ ?_
                            rotate_left
                            · intro w'
                              go_simp
                              with_reducible rfl
                            rotate_left
                            · simp only [Act.put, List.setIfInBounds_toArray, List.set_cons_zero, List.set_cons_succ, i64_w, i32_w]
                              rfl
                            refine pure_ (i := 4) (N := some 49) (v := ?_) (a' := ?_) #[true, true, true, true, true, false, false, false, false, false, false, false, false, false, false, false, false, false, false, false, false, false, false] rfl rfl (any_of HT_.out (by kernel_rfl)) (fun _ _ _ h => h) (Or.inl ⟨by rfl, ?_⟩) ?_ ?_
                            rotate_left
                            · intro w'
                              go_simp
                              with_reducible rfl
                            rotate_left
                            · simp only [Act.put, List.setIfInBounds_toArray, List.set_cons_zero, List.set_cons_succ, i64_w, i32_w]
                              rfl
                            refine pure_ (i := 6) (N := some 51) (v := ?_) (a' := ?_) #[true, true, true, true, true, false, true, false, false, false, false, false, false, false, false, false, false, false, false, false, false, false, false] rfl rfl (any_of HT_.out (by kernel_rfl)) (fun _ _ _ h => h) (Or.inl ⟨by rfl, ?_⟩) ?_ ?_
                            rotate_left
                            · intro w'
                              go_simp
                              with_reducible rfl
                            rotate_left
                            · simp only [Act.put, List.setIfInBounds_toArray, List.set_cons_zero, List.set_cons_succ, i64_w, i32_w]
                              rfl
                            refine take_ (i := 5) (N := some 50) (v := ?_) (a' := ?_) #[true, true, true, true, true, true, true, false, false, false, false, false, false, false, false, false, false, false, false, false, false, false, false] rfl rfl (take_ofW HT_.out HW_.out (by kernel_rfl)) (fun _ _ _ h => h) (Or.inl ⟨by rfl, ?_⟩) hHeld ?_ ?_
                            rotate_left
                            · rintro w' ⟨s0, s1, s2, s3, s4⟩
                              go_simp
                              with_reducible rfl
                            rotate_left
                            · simp only [Act.put, List.setIfInBounds_toArray, List.set_cons_zero, List.set_cons_succ, i64_w, i32_w]
                              rfl
                            refine one_ (i := 7) (N := some 52) #[true, true, true, true, true, true, true, true, false, false, false, false, false, false, false, false, false, false, false, false, false, false, false] rfl rfl (one_of HT_.out (by kernel_rfl)) (by decide) (fun K hK => ?_)
                            refine goes_ Try.func25 (by kernel_rfl) rfl #[.int .i64 a4, .bool true] (by rfl) rfl rfl (by (try simp only [List.map_toArray, List.map_cons, List.map_nil]); first | done | rfl | (simp only [List.length_drop, List.length_take]; rfl)) ?_
                            with_reducible refine (pte_Cause.calls a4 true t240 _ A84.out).mono ?_
                            rintro e w' ⟨rfl, ⟨nd, rfl⟩⟩
                            refine ⟨_, rfl, ?_⟩
                            refine hK.out _ _ ⟨(blk_cell BK225.out 0).trans rfl, (blk_cell BK225.out 1).trans rfl, (blk_cell BK225.out 2).trans rfl, (blk_cell BK225.out 3).trans rfl, (blk_cell BK225.out 4).trans rfl⟩ (fun hHeld => ?_)
                            clear hK K
                            refine norm_ (a' := ?_) ?_ ?_
                            rotate_left
                            · show Act.put _ (some 52) _ = _
                              simp only [Act.put, List.setIfInBounds_toArray, List.set_cons_zero, List.set_cons_succ, i64_w, i32_w]
                              rfl
                            refine pure_ (i := 8) (N := some 53) (v := ?_) (a' := ?_) #[true, true, true, true, true, true, true, true, true, false, false, false, false, false, false, false, false, false, false, false, false, false, false] rfl rfl (any_of HT_.out (by kernel_rfl)) (fun _ _ _ h => h) (Or.inl ⟨by rfl, ?_⟩) ?_ ?_
                            rotate_left
                            · intro w'
                              go_simp
                              with_reducible rfl
                            rotate_left
                            · simp only [Act.put, List.setIfInBounds_toArray, List.set_cons_zero, List.set_cons_succ, i64_w, i32_w]
                              rfl
                            refine pure_ (i := 9) (N := some 54) (v := ?_) (a' := ?_) #[true, true, true, true, true, true, true, true, true, true, false, false, false, false, false, false, false, false, false, false, false, false, false] rfl rfl (any_of HT_.out (by kernel_rfl)) (fun _ _ _ h => h) (Or.inl ⟨by rfl, ?_⟩) ?_ ?_
                            rotate_left
                            · intro w'
                              go_simp
                              with_reducible rfl
                            rotate_left
                            · simp only [Act.put, List.setIfInBounds_toArray, List.set_cons_zero, List.set_cons_succ, i64_w, i32_w]
                              rfl
                            refine pure_ (i := 10) (N := some 55) (v := ?_) (a' := ?_) #[true, true, true, true, true, true, true, true, true, true, true, false, false, false, false, false, false, false, false, false, false, false, false] rfl rfl (any_of HT_.out (by kernel_rfl)) (fun _ _ _ h => h) (Or.inl ⟨by rfl, ?_⟩) ?_ ?_
                            rotate_left
                            · intro w'
                              go_simp
                              with_reducible rfl
                            rotate_left
                            · simp only [Act.put, List.setIfInBounds_toArray, List.set_cons_zero, List.set_cons_succ, i64_w, i32_w]
                              rfl
                            refine pure_ (i := 12) (N := some 57) (v := ?_) (a' := ?_) #[true, true, true, true, true, true, true, true, true, true, true, false, true, false, false, false, false, false, false, false, false, false, false] rfl rfl (any_of HT_.out (by kernel_rfl)) (fun _ _ _ h => h) (Or.inl ⟨by rfl, ?_⟩) ?_ ?_
                            rotate_left
                            · intro w'
                              go_simp
                              with_reducible rfl
                            rotate_left
                            · simp only [Act.put, List.setIfInBounds_toArray, List.set_cons_zero, List.set_cons_succ, i64_w, i32_w]
                              rfl
                            refine take_ (i := 11) (N := some 56) (v := ?_) (a' := ?_) #[true, true, true, true, true, true, true, true, true, true, true, true, true, false, false, false, false, false, false, false, false, false, false] rfl rfl (take_ofW HT_.out HW_.out (by kernel_rfl)) (fun _ _ _ h => h) (Or.inl ⟨by rfl, ?_⟩) hHeld ?_ ?_
                            rotate_left
                            · rintro w' ⟨s0, s1, s2, s3, s4⟩
                              go_simp
                              with_reducible rfl
                            rotate_left
                            · simp only [Act.put, List.setIfInBounds_toArray, List.set_cons_zero, List.set_cons_succ, i64_w, i32_w]
                              rfl
                            refine one_ (i := 13) (N := some 58) #[true, true, true, true, true, true, true, true, true, true, true, true, true, true, false, false, false, false, false, false, false, false, false] rfl rfl (one_of HT_.out (by kernel_rfl)) (by decide) (fun K hK => ?_)
                            refine goes_ Try.func25 (by kernel_rfl) rfl #[.int .i64 a4, .bool false] (by rfl) rfl rfl (by (try simp only [List.map_toArray, List.map_cons, List.map_nil]); first | done | rfl | (simp only [List.length_drop, List.length_take]; rfl)) ?_
                            with_reducible refine (pte_Cause.calls a4 false t241 _ A93.out).mono ?_
                            rintro e w' ⟨rfl, ⟨nd, rfl⟩⟩
                            refine ⟨_, rfl, ?_⟩
                            refine hK.out _ _ ⟨(blk_cell BK225.out 0).trans rfl, (blk_cell BK225.out 1).trans rfl, (blk_cell BK225.out 2).trans rfl, (blk_cell BK225.out 3).trans rfl, (blk_cell BK225.out 4).trans rfl⟩ (fun hHeld => ?_)
                            clear hK K
                            refine norm_ (a' := ?_) ?_ ?_
                            rotate_left
                            · show Act.put _ (some 58) _ = _
                              simp only [Act.put, List.setIfInBounds_toArray, List.set_cons_zero, List.set_cons_succ, i64_w, i32_w]
                              rfl
                            refine pure_ (i := 14) (N := some 59) (v := ?_) (a' := ?_) #[true, true, true, true, true, true, true, true, true, true, true, true, true, true, true, false, false, false, false, false, false, false, false] rfl rfl (any_of HT_.out (by kernel_rfl)) (fun _ _ _ h => h) (Or.inl ⟨by rfl, ?_⟩) ?_ ?_
                            rotate_left
                            · intro w'
                              go_simp
                              with_reducible rfl
                            rotate_left
                            · simp only [Act.put, List.setIfInBounds_toArray, List.set_cons_zero, List.set_cons_succ, i64_w, i32_w]
                              rfl
                            refine pure_ (i := 15) (N := some 60) (v := ?_) (a' := ?_) #[true, true, true, true, true, true, true, true, true, true, true, true, true, true, true, true, false, false, false, false, false, false, false] rfl rfl (any_of HT_.out (by kernel_rfl)) (fun _ _ _ h => h) (Or.inl ⟨by rfl, ?_⟩) ?_ ?_
                            rotate_left
                            · intro w'
                              go_simp
                              with_reducible rfl
                            rotate_left
                            · simp only [Act.put, List.setIfInBounds_toArray, List.set_cons_zero, List.set_cons_succ, i64_w, i32_w]
                              rfl
                            refine pure_ (i := 16) (N := some 61) (v := ?_) (a' := ?_) #[true, true, true, true, true, true, true, true, true, true, true, true, true, true, true, true, true, false, false, false, false, false, false] rfl rfl (any_of HT_.out (by kernel_rfl)) (fun _ _ _ h => h) (Or.inl ⟨by rfl, ?_⟩) ?_ ?_
                            rotate_left
                            · intro w'
                              go_simp
                              with_reducible rfl
                            rotate_left
                            · simp only [Act.put, List.setIfInBounds_toArray, List.set_cons_zero, List.set_cons_succ, i64_w, i32_w]
                              rfl
                            refine pure_ (i := 17) (N := some 62) (v := ?_) (a' := ?_) #[true, true, true, true, true, true, true, true, true, true, true, true, true, true, true, true, true, true, false, false, false, false, false] rfl rfl (any_of HT_.out (by kernel_rfl)) (fun _ _ _ h => h) (Or.inl ⟨by rfl, ?_⟩) ?_ ?_
                            rotate_left
                            · intro w'
                              go_simp
                              with_reducible rfl
                            rotate_left
                            · simp only [Act.put, List.setIfInBounds_toArray, List.set_cons_zero, List.set_cons_succ, i64_w, i32_w]
                              rfl
                            refine pure_ (i := 18) (N := some 63) (v := ?_) (a' := ?_) #[true, true, true, true, true, true, true, true, true, true, true, true, true, true, true, true, true, true, true, false, false, false, false] rfl rfl (any_of HT_.out (by kernel_rfl)) (fun _ _ _ h => h) (Or.inl ⟨by rfl, ?_⟩) ?_ ?_
                            rotate_left
                            · intro w'
                              go_simp
                              with_reducible rfl
                            rotate_left
                            · simp only [Act.put, List.setIfInBounds_toArray, List.set_cons_zero, List.set_cons_succ, i64_w, i32_w]
                              rfl
                            refine take_ (i := 19) (N := some 64) (v := ?_) (a' := ?_) #[true, true, true, true, true, true, true, true, true, true, true, true, true, true, true, true, true, true, true, true, false, false, false] rfl rfl (take_ofW HT_.out HW_.out (by kernel_rfl)) (fun _ _ _ h => h) (Or.inl ⟨by rfl, ?_⟩) hHeld ?_ ?_
                            rotate_left
                            · rintro w' ⟨s0, s1, s2, s3, s4⟩
                              go_simp
                              with_reducible rfl
                            rotate_left
                            · simp only [Act.put, List.setIfInBounds_toArray, List.set_cons_zero, List.set_cons_succ, i64_w, i32_w]
                              rfl
                            refine pure_ (i := 20) (N := some 65) (v := ?_) (a' := ?_) #[true, true, true, true, true, true, true, true, true, true, true, true, true, true, true, true, true, true, true, true, true, false, false] rfl rfl (any_of HT_.out (by kernel_rfl)) (fun _ _ _ h => h) (Or.inl ⟨by rfl, ?_⟩) ?_ ?_
                            rotate_left
                            · intro w'
                              go_simp
                              with_reducible rfl
                            rotate_left
                            · simp only [Act.put, List.setIfInBounds_toArray, List.set_cons_zero, List.set_cons_succ, i64_w, i32_w]
                              rfl
                            refine pure_ (i := 21) (N := some 66) (v := ?_) (a' := ?_) #[true, true, true, true, true, true, true, true, true, true, true, true, true, true, true, true, true, true, true, true, true, true, false] rfl rfl (any_of HT_.out (by kernel_rfl)) (fun _ _ _ h => h) (Or.inl ⟨by rfl, ?_⟩) ?_ ?_
                            rotate_left
                            · intro w'
                              go_simp
                              with_reducible rfl
                            rotate_left
                            · simp only [Act.put, List.setIfInBounds_toArray, List.set_cons_zero, List.set_cons_succ, i64_w, i32_w]
                              rfl
                            refine pure_ (i := 22) (N := some 10) (v := ?_) (a' := ?_) #[true, true, true, true, true, true, true, true, true, true, true, true, true, true, true, true, true, true, true, true, true, true, true] rfl rfl (any_of HT_.out (by kernel_rfl)) (fun _ _ _ h => h) (Or.inl ⟨by rfl, ?_⟩) ?_ ?_
                            rotate_left
                            · intro w'
                              go_simp
                              with_reducible rfl
                            rotate_left
                            · simp only [Act.put, List.setIfInBounds_toArray, List.set_cons_zero, List.set_cons_succ, i64_w, i32_w]
                              rfl
                            refine done_ (done_of HT_.out (by kernel_rfl)) ?_
                            try go_wp2
                            go_ret
                            exact ⟨by first | rfl | (simp [errW_none, errW_some] <;> rfl) | (simp [*, errW_none, errW_some] <;> rfl), by repeat (first | (with_reducible first | exact HB.out | apply below_alloc | apply pw_below_drewN | apply below_drew1 | refine below_set ?_ GE225.out) | exact HB.out)⟩
                          · rw [if_neg c94] at H
                            have c94b0 : (t224 == t241) = false := beq_eq_false_iff_ne.mpr c94
                            have c94b1 : (t224 != t241) = true := bne_iff_ne.mpr c94
                            exact absurd (Option.some.inj H) (by rw [HRT.out]; decide)
                      · rw [if_neg c83] at H
                        have c83b0 : (t220 == 2) = false := beq_eq_false_iff_ne.mpr c83
                        have c83b1 : (t220 != 2) = true := bne_iff_ne.mpr c83
                        exact absurd (Option.some.inj H) (by rw [HRT.out]; decide)
              · rw [if_neg c14] at H
                have c14b0 : decide (x15_2 < 6) = false := decide_eq_false c14
                clear c14
                exact absurd (Option.some.inj H) (by rw [HRT.out]; decide)
  · replace c7 := Bool.eq_false_iff.mpr c7
    subst c7
    have H1 : (some false) = some r := by rw [if_neg (show ¬ (false = true) by decide)] at H; exact H
    clear H
    have H := H1
    clear H1
    exact absurd (Option.some.inj H) (by rw [HRT.out]; decide)

/-- THE ONE PURE STATEMENT of corrallaw9_WalkEnds: yours. -/
def corrallaw9_WalkEnds.Pure : Prop := ∀ (l0 : List Int) (a1 : Int) (a2 : Int) (a3 : Int) (a4 : Int), l0.length ≤ maxLen → l0.length * 4 ≤ 140737488351232 → (∀ x ∈ l0, (Lit.int .u32 x).wf = true) → (Lit.int .u32 a1).wf = true → (Lit.int .i64 a2).wf = true → (Lit.int .u32 a3).wf = true → (Lit.int .i64 a4).wf = true → ∃ k, corrallaw9_WalkEnds.f k l0 a1 a2 a3 a4 = some true
theorem corrallaw9_WalkEnds.walk (P : corrallaw9_WalkEnds.Pure) (a0 : Option Addr) (len0 cap0 : Nat) (z0 : List Int) (a1 : Int) (a2 : Int) (a3 : Int) (a4 : Int) (w : World) (w0 : (a0 = none ∧ len0 = 0 ∧ cap0 = 0 ∧ z0 = []) ∨ ∃ x, a0 = some x ∧ len0 ≤ cap0 ∧ cap0 ≤ maxLen ∧ z0.length = cap0 ∧ (∀ i, i < z0.length → w.cell? (x.add i) = some (.int .u32 (z0.getD i 0))) ∧ ∀ n ∈ z0, (Lit.int .u32 n).wf = true) (y0 : len0 * 4 ≤ 140737488351232) (w1 : (Lit.int .u32 a1).wf = true) (w2 : (Lit.int .i64 a2).wf = true) (w3 : (Lit.int .u32 a3).wf = true) (w4 : (Lit.int .i64 a4).wf = true) :
    Calls Try.prog 4 #[.slice a0 len0 cap0, .int .u32 a1, .int .i64 a2, .int .u32 a3, .int .i64 a4] w fun e w' => e = .returned (.bool true) ∧ Below w.heap.size w w' := by
  obtain ⟨l0, rfl, hr0, hm0, hw0, hc0⟩ := ReadsInt.ofRowC w0
  obtain ⟨k, h⟩ := P l0 a1 a2 a3 a4 hm0 y0 hw0 w1 w2 w3 w4
  refine (corrallaw9_WalkEnds.calls k _ _ l0 a1 a2 a3 a4 true w (Kd.C_of_reads (d := (0 : Int)) (h1 := fun _ => rfl) hr0) hc0 h rfl).mono ?_
  rintro e w' ⟨rfl, hd⟩
  exact ⟨rfl, hd⟩

end Go.Proofs.Ytecmjcfhbedelaa.QWalkEnds
