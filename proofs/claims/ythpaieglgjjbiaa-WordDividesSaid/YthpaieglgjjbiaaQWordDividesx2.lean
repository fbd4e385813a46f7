-- Laid by a program of this session (wip/tpl/mine.sh), out of the program's form in Lean: Lean checks it.
import Derived.Test.YthpaieglgjjbiaaQWordDividesx0
import Derived.Test.YthpaieglgjjbiaaQWordDividesx1
namespace Go.Proofs.Ythpaieglgjjbiaa.QWordDivides
open Go.RowKit Go.Proofs.YthpaieglgjjbiaaW.PrintWords Go.Proofs.YthpaieglgjjbiaaW.PrintLast Go.Proofs.YthpaieglgjjbiaaW.PrintMore
attribute [local go_sem] max2_int min2_int max_two min_two max_three min_three max_four min_four   -- for this text's walks alone
set_option linter.unusedVariables false
set_option linter.unusedSimpArgs false

/-! ### corrallaw1_WordDivides: function 8 -/
mutual
def corrallaw1_WordDivides.j0 : Nat → Int → Int → Bool → Int → Int → Int → Int → Bool → Option (Bool)
  | 0, _, _, _, _, _, _, _, _ => none
  | k + 1, x0, x1, x5, x6, x7, x8, x9, x57 => if x57 = true then (some false) else (if x1 = 0 then (if x5 = true then (if x6 = 4294967295 then (if x8 = 4294967295 then (if x7 = x0 then (some (x9 == x0)) else (some false)) else (some false)) else (some false)) else (some false)) else (if x7 ≥ x1 then (corrallaw1_WordDivides.j1 k x0 x1 x5 true) else (if x9 = 0 then (corrallaw1_WordDivides.j1 k x0 x1 x5 false) else ((word_Less.f x9 0 true).bind fun t118 => ((word_Less.f x0 0 true).bind fun t119 => (corrallaw1_WordDivides.j1 k x0 x1 x5 (t118 != t119)))))))
def corrallaw1_WordDivides.j1 : Nat → Int → Int → Bool → Bool → Option (Bool)
  | 0, _, _, _, _ => none
  | k + 1, x0, x1, x5, x92 => if x92 = true then (some false) else ((word_Less.f x0 0 true).bind fun t120 => (if t120 = true then (corrallaw1_WordDivides.j2 k x0 x1 x5 (((((x0 / 65536) * (x1 / 65536)) + (((((x0 / 65536) * (Go.bits .and .u32 x1 65535)) + ((((Go.bits .and .u32 x0 65535) * (Go.bits .and .u32 x1 65535)) % 4294967296) / 65536)) % 4294967296) / 65536)) + ((((Go.bits .and .u32 ((((x0 / 65536) * (Go.bits .and .u32 x1 65535)) + ((((Go.bits .and .u32 x0 65535) * (Go.bits .and .u32 x1 65535)) % 4294967296) / 65536)) % 4294967296) 65535) + ((Go.bits .and .u32 x0 65535) * (x1 / 65536))) % 4294967296) / 65536)) % 4294967296) ((((((x0 / 65536) * (x1 / 65536)) + (((((x0 / 65536) * (Go.bits .and .u32 x1 65535)) + ((((Go.bits .and .u32 x0 65535) * (Go.bits .and .u32 x1 65535)) % 4294967296) / 65536)) % 4294967296) / 65536)) + ((((Go.bits .and .u32 ((((x0 / 65536) * (Go.bits .and .u32 x1 65535)) + ((((Go.bits .and .u32 x0 65535) * (Go.bits .and .u32 x1 65535)) % 4294967296) / 65536)) % 4294967296) 65535) + ((Go.bits .and .u32 x0 65535) * (x1 / 65536))) % 4294967296) / 65536)) - x1) % 4294967296)) else (corrallaw1_WordDivides.j2 k x0 x1 x5 (((((x0 / 65536) * (x1 / 65536)) + (((((x0 / 65536) * (Go.bits .and .u32 x1 65535)) + ((((Go.bits .and .u32 x0 65535) * (Go.bits .and .u32 x1 65535)) % 4294967296) / 65536)) % 4294967296) / 65536)) + ((((Go.bits .and .u32 ((((x0 / 65536) * (Go.bits .and .u32 x1 65535)) + ((((Go.bits .and .u32 x0 65535) * (Go.bits .and .u32 x1 65535)) % 4294967296) / 65536)) % 4294967296) 65535) + ((Go.bits .and .u32 x0 65535) * (x1 / 65536))) % 4294967296) / 65536)) % 4294967296) (((((x0 / 65536) * (x1 / 65536)) + (((((x0 / 65536) * (Go.bits .and .u32 x1 65535)) + ((((Go.bits .and .u32 x0 65535) * (Go.bits .and .u32 x1 65535)) % 4294967296) / 65536)) % 4294967296) / 65536)) + ((((Go.bits .and .u32 ((((x0 / 65536) * (Go.bits .and .u32 x1 65535)) + ((((Go.bits .and .u32 x0 65535) * (Go.bits .and .u32 x1 65535)) % 4294967296) / 65536)) % 4294967296) 65535) + ((Go.bits .and .u32 x0 65535) * (x1 / 65536))) % 4294967296) / 65536)) % 4294967296))))
def corrallaw1_WordDivides.j2 : Nat → Int → Int → Bool → Int → Int → Option (Bool)
  | 0, _, _, _, _, _ => none
  | k + 1, x0, x1, x5, x16, x17 => (word_Less.f x1 0 true).bind fun t121 => (if t121 = true then (if x5 = true then ((word_High.f x0 x1 false false).bind fun t122 => (if t122 = x16 then ((word_High.f x0 x1 true false).bind fun t123 => (if t123 = x17 then ((word_High.f x0 x1 true true).bind fun t124 => (some (t124 == ((x17 - x0) % 4294967296)))) else (some false))) else (some false))) else (some false)) else (if x5 = true then ((word_High.f x0 x1 false false).bind fun t125 => (if t125 = x16 then ((word_High.f x0 x1 true false).bind fun t126 => (if t126 = x17 then ((word_High.f x0 x1 true true).bind fun t127 => (some (t127 == x17))) else (some false))) else (some false))) else (some false)))
end
def corrallaw1_WordDivides.f (k : Nat) (a0 : Int) (a1 : Int) : Option (Bool) := (corrallaw1_first.f k).bind fun t113 => (if t113 = true then ((word_Div.f k a0 a1 false).bind fun t114 => ((word_Rem.f k a0 a1 false).bind fun t115 => ((word_Div.f k a0 a1 true).bind fun t116 => ((word_Rem.f k a0 a1 true).bind fun t117 => (if (((t114 * a1) + t115) % 4294967296) = a0 then (if (((t116 * a1) + t117) % 4294967296) = a0 then (corrallaw1_WordDivides.j0 k a0 a1 t113 t114 t115 t116 t117 false) else (corrallaw1_WordDivides.j0 k a0 a1 t113 t114 t115 t116 t117 (a1 != 0))) else (if a1 = 0 then (if (((t116 * a1) + t117) % 4294967296) = a0 then (corrallaw1_WordDivides.j0 k a0 a1 t113 t114 t115 t116 t117 false) else (corrallaw1_WordDivides.j0 k a0 a1 t113 t114 t115 t116 t117 (a1 != 0))) else (corrallaw1_WordDivides.j0 k a0 a1 t113 t114 t115 t116 t117 true))))))) else (some false))
theorem corrallaw1_WordDivides.mono_l : ∀ k, (∀ y0 y1 y2 y3 y4 y5 y6 y7, LeO (corrallaw1_WordDivides.j0 k y0 y1 y2 y3 y4 y5 y6 y7) (corrallaw1_WordDivides.j0 (k + 1) y0 y1 y2 y3 y4 y5 y6 y7)) ∧ (∀ y0 y1 y2 y3, LeO (corrallaw1_WordDivides.j1 k y0 y1 y2 y3) (corrallaw1_WordDivides.j1 (k + 1) y0 y1 y2 y3)) ∧ (∀ y0 y1 y2 y3 y4, LeO (corrallaw1_WordDivides.j2 k y0 y1 y2 y3 y4) (corrallaw1_WordDivides.j2 (k + 1) y0 y1 y2 y3 y4))
  | 0 => ⟨fun _ _ _ _ _ _ _ _ r h => by simp [corrallaw1_WordDivides.j0] at h, fun _ _ _ _ r h => by simp [corrallaw1_WordDivides.j1] at h, fun _ _ _ _ _ r h => by simp [corrallaw1_WordDivides.j2] at h⟩
  | k + 1 => by
    obtain ⟨ih0, ih1, ih2⟩ := corrallaw1_WordDivides.mono_l k
    refine ⟨?_, ?_, ?_⟩
    · intro y0 y1 y2 y3 y4 y5 y6 y7
      unfold corrallaw1_WordDivides.j0
      repeat' first
      | (with_reducible exact ih0 _ _ _ _ _ _ _ _)
      | (with_reducible exact ih1 _ _ _ _)
      | (with_reducible exact ih2 _ _ _ _ _)
      | (with_reducible exact corrallaw1_first.mono _)
      | (with_reducible exact word_Div.mono _ _ _ _)
      | (with_reducible exact word_Rem.mono _ _ _ _)
      | (with_reducible exact LeO.refl _)
      | (with_reducible exact LeO.none _)
      | (with_reducible refine LeO.ite ?_ ?_)
      | (with_reducible refine LeO.bind ?_ (fun _ => ?_))
      | exact ih0 _ _ _ _ _ _ _ _
      | exact ih1 _ _ _ _
      | exact ih2 _ _ _ _ _
      | exact corrallaw1_first.mono _
      | exact word_Div.mono _ _ _ _
      | exact word_Rem.mono _ _ _ _
      | exact LeO.none _
      | refine LeO.ite ?_ ?_
      | refine LeO.bind ?_ (fun _ => ?_)
    · intro y0 y1 y2 y3
      unfold corrallaw1_WordDivides.j1
      repeat' first
      | (with_reducible exact ih0 _ _ _ _ _ _ _ _)
      | (with_reducible exact ih1 _ _ _ _)
      | (with_reducible exact ih2 _ _ _ _ _)
      | (with_reducible exact corrallaw1_first.mono _)
      | (with_reducible exact word_Div.mono _ _ _ _)
      | (with_reducible exact word_Rem.mono _ _ _ _)
      | (with_reducible exact LeO.refl _)
      | (with_reducible exact LeO.none _)
      | (with_reducible refine LeO.ite ?_ ?_)
      | (with_reducible refine LeO.bind ?_ (fun _ => ?_))
      | exact ih0 _ _ _ _ _ _ _ _
      | exact ih1 _ _ _ _
      | exact ih2 _ _ _ _ _
      | exact corrallaw1_first.mono _
      | exact word_Div.mono _ _ _ _
      | exact word_Rem.mono _ _ _ _
      | exact LeO.none _
      | refine LeO.ite ?_ ?_
      | refine LeO.bind ?_ (fun _ => ?_)
    · intro y0 y1 y2 y3 y4
      unfold corrallaw1_WordDivides.j2
      repeat' first
      | (with_reducible exact ih0 _ _ _ _ _ _ _ _)
      | (with_reducible exact ih1 _ _ _ _)
      | (with_reducible exact ih2 _ _ _ _ _)
      | (with_reducible exact corrallaw1_first.mono _)
      | (with_reducible exact word_Div.mono _ _ _ _)
      | (with_reducible exact word_Rem.mono _ _ _ _)
      | (with_reducible exact LeO.refl _)
      | (with_reducible exact LeO.none _)
      | (with_reducible refine LeO.ite ?_ ?_)
      | (with_reducible refine LeO.bind ?_ (fun _ => ?_))
      | exact ih0 _ _ _ _ _ _ _ _
      | exact ih1 _ _ _ _
      | exact ih2 _ _ _ _ _
      | exact corrallaw1_first.mono _
      | exact word_Div.mono _ _ _ _
      | exact word_Rem.mono _ _ _ _
      | exact LeO.none _
      | refine LeO.ite ?_ ?_
      | refine LeO.bind ?_ (fun _ => ?_)
theorem corrallaw1_WordDivides.mono : ∀ a0 a1 k, LeO (corrallaw1_WordDivides.f k a0 a1) (corrallaw1_WordDivides.f (k + 1) a0 a1) := by
  intro a0 a1 k
  obtain ⟨ih0, ih1, ih2⟩ := corrallaw1_WordDivides.mono_l k
  unfold corrallaw1_WordDivides.f
  repeat' first
      | (with_reducible exact ih0 _ _ _ _ _ _ _ _)
      | (with_reducible exact ih1 _ _ _ _)
      | (with_reducible exact ih2 _ _ _ _ _)
      | (with_reducible exact corrallaw1_first.mono _)
      | (with_reducible exact word_Div.mono _ _ _ _)
      | (with_reducible exact word_Rem.mono _ _ _ _)
      | (with_reducible exact LeO.refl _)
      | (with_reducible exact LeO.none _)
      | (with_reducible refine LeO.ite ?_ ?_)
      | (with_reducible refine LeO.bind ?_ (fun _ => ?_))
      | exact ih0 _ _ _ _ _ _ _ _
      | exact ih1 _ _ _ _
      | exact ih2 _ _ _ _ _
      | exact corrallaw1_first.mono _
      | exact word_Div.mono _ _ _ _
      | exact word_Rem.mono _ _ _ _
      | exact LeO.none _
      | refine LeO.ite ?_ ?_
      | refine LeO.bind ?_ (fun _ => ?_)
set_option maxHeartbeats 8000000 in
set_option maxRecDepth 100000 in
theorem corrallaw1_WordDivides.calls (k : Nat) (a0 : Int) (a1 : Int) (r : Bool) (w : World) (h : corrallaw1_WordDivides.f k a0 a1 = some r) (hr0 : r = true) :
    Calls Try.prog 8 #[.int .u32 a0, .int .u32 a1] w fun e w' => e = .returned (.bool r) ∧ Below w.heap.size w w' := by
  have HB := Aside0.mk (Below.refl w.heap.size w)
  have H : ((corrallaw1_first.f k).bind fun t113 => (if t113 = true then ((word_Div.f k a0 a1 false).bind fun t114 => ((word_Rem.f k a0 a1 false).bind fun t115 => ((word_Div.f k a0 a1 true).bind fun t116 => ((word_Rem.f k a0 a1 true).bind fun t117 => (if (((t114 * a1) + t115) % 4294967296) = a0 then (if (((t116 * a1) + t117) % 4294967296) = a0 then (corrallaw1_WordDivides.j0 k a0 a1 t113 t114 t115 t116 t117 false) else (corrallaw1_WordDivides.j0 k a0 a1 t113 t114 t115 t116 t117 (a1 != 0))) else (if a1 = 0 then (if (((t116 * a1) + t117) % 4294967296) = a0 then (corrallaw1_WordDivides.j0 k a0 a1 t113 t114 t115 t116 t117 false) else (corrallaw1_WordDivides.j0 k a0 a1 t113 t114 t115 t116 t117 (a1 != 0))) else (corrallaw1_WordDivides.j0 k a0 a1 t113 t114 t115 t116 t117 true))))))) else (some false))) = some r := h
  clear h
  have HRT := Aside0.mk hr0
  clear hr0
  replace H := Option.bind_eq_some_iff.mp H
  obtain ⟨t113, A30, H⟩ := H
  replace H : (if t113 = true then ((word_Div.f k a0 a1 false).bind fun t114 => ((word_Rem.f k a0 a1 false).bind fun t115 => ((word_Div.f k a0 a1 true).bind fun t116 => ((word_Rem.f k a0 a1 true).bind fun t117 => (if (((t114 * a1) + t115) % 4294967296) = a0 then (if (((t116 * a1) + t117) % 4294967296) = a0 then (corrallaw1_WordDivides.j0 k a0 a1 t113 t114 t115 t116 t117 false) else (corrallaw1_WordDivides.j0 k a0 a1 t113 t114 t115 t116 t117 (a1 != 0))) else (if a1 = 0 then (if (((t116 * a1) + t117) % 4294967296) = a0 then (corrallaw1_WordDivides.j0 k a0 a1 t113 t114 t115 t116 t117 false) else (corrallaw1_WordDivides.j0 k a0 a1 t113 t114 t115 t116 t117 (a1 != 0))) else (corrallaw1_WordDivides.j0 k a0 a1 t113 t114 t115 t116 t117 true))))))) else (some false)) = some r := H
  have A3 := Aside0.mk A30
  clear A30
  by_cases c4 : t113 = true
  · subst c4
    have H1 : ((word_Div.f k a0 a1 false).bind fun t114 => ((word_Rem.f k a0 a1 false).bind fun t115 => ((word_Div.f k a0 a1 true).bind fun t116 => ((word_Rem.f k a0 a1 true).bind fun t117 => (if (((t114 * a1) + t115) % 4294967296) = a0 then (if (((t116 * a1) + t117) % 4294967296) = a0 then (corrallaw1_WordDivides.j0 k a0 a1 true t114 t115 t116 t117 false) else (corrallaw1_WordDivides.j0 k a0 a1 true t114 t115 t116 t117 (a1 != 0))) else (if a1 = 0 then (if (((t116 * a1) + t117) % 4294967296) = a0 then (corrallaw1_WordDivides.j0 k a0 a1 true t114 t115 t116 t117 false) else (corrallaw1_WordDivides.j0 k a0 a1 true t114 t115 t116 t117 (a1 != 0))) else (corrallaw1_WordDivides.j0 k a0 a1 true t114 t115 t116 t117 true))))))) = some r := by rw [if_pos rfl] at H; exact H
    clear H
    have H := H1
    clear H1
    replace H := Option.bind_eq_some_iff.mp H
    obtain ⟨t114, A50, H⟩ := H
    replace H : ((word_Rem.f k a0 a1 false).bind fun t115 => ((word_Div.f k a0 a1 true).bind fun t116 => ((word_Rem.f k a0 a1 true).bind fun t117 => (if (((t114 * a1) + t115) % 4294967296) = a0 then (if (((t116 * a1) + t117) % 4294967296) = a0 then (corrallaw1_WordDivides.j0 k a0 a1 true t114 t115 t116 t117 false) else (corrallaw1_WordDivides.j0 k a0 a1 true t114 t115 t116 t117 (a1 != 0))) else (if a1 = 0 then (if (((t116 * a1) + t117) % 4294967296) = a0 then (corrallaw1_WordDivides.j0 k a0 a1 true t114 t115 t116 t117 false) else (corrallaw1_WordDivides.j0 k a0 a1 true t114 t115 t116 t117 (a1 != 0))) else (corrallaw1_WordDivides.j0 k a0 a1 true t114 t115 t116 t117 true)))))) = some r := H
    have A5 := Aside0.mk A50
    clear A50
    replace H := Option.bind_eq_some_iff.mp H
    obtain ⟨t115, A60, H⟩ := H
    replace H : ((word_Div.f k a0 a1 true).bind fun t116 => ((word_Rem.f k a0 a1 true).bind fun t117 => (if (((t114 * a1) + t115) % 4294967296) = a0 then (if (((t116 * a1) + t117) % 4294967296) = a0 then (corrallaw1_WordDivides.j0 k a0 a1 true t114 t115 t116 t117 false) else (corrallaw1_WordDivides.j0 k a0 a1 true t114 t115 t116 t117 (a1 != 0))) else (if a1 = 0 then (if (((t116 * a1) + t117) % 4294967296) = a0 then (corrallaw1_WordDivides.j0 k a0 a1 true t114 t115 t116 t117 false) else (corrallaw1_WordDivides.j0 k a0 a1 true t114 t115 t116 t117 (a1 != 0))) else (corrallaw1_WordDivides.j0 k a0 a1 true t114 t115 t116 t117 true))))) = some r := H
    have A6 := Aside0.mk A60
    clear A60
    replace H := Option.bind_eq_some_iff.mp H
    obtain ⟨t116, A70, H⟩ := H
    replace H : ((word_Rem.f k a0 a1 true).bind fun t117 => (if (((t114 * a1) + t115) % 4294967296) = a0 then (if (((t116 * a1) + t117) % 4294967296) = a0 then (corrallaw1_WordDivides.j0 k a0 a1 true t114 t115 t116 t117 false) else (corrallaw1_WordDivides.j0 k a0 a1 true t114 t115 t116 t117 (a1 != 0))) else (if a1 = 0 then (if (((t116 * a1) + t117) % 4294967296) = a0 then (corrallaw1_WordDivides.j0 k a0 a1 true t114 t115 t116 t117 false) else (corrallaw1_WordDivides.j0 k a0 a1 true t114 t115 t116 t117 (a1 != 0))) else (corrallaw1_WordDivides.j0 k a0 a1 true t114 t115 t116 t117 true)))) = some r := H
    have A7 := Aside0.mk A70
    clear A70
    replace H := Option.bind_eq_some_iff.mp H
    obtain ⟨t117, A80, H⟩ := H
    replace H : (if (((t114 * a1) + t115) % 4294967296) = a0 then (if (((t116 * a1) + t117) % 4294967296) = a0 then (corrallaw1_WordDivides.j0 k a0 a1 true t114 t115 t116 t117 false) else (corrallaw1_WordDivides.j0 k a0 a1 true t114 t115 t116 t117 (a1 != 0))) else (if a1 = 0 then (if (((t116 * a1) + t117) % 4294967296) = a0 then (corrallaw1_WordDivides.j0 k a0 a1 true t114 t115 t116 t117 false) else (corrallaw1_WordDivides.j0 k a0 a1 true t114 t115 t116 t117 (a1 != 0))) else (corrallaw1_WordDivides.j0 k a0 a1 true t114 t115 t116 t117 true))) = some r := H
    have A8 := Aside0.mk A80
    clear A80
    have HC9 := Aside0.mk H
    clear H
    go_enter Try.func8, Try.ntmps8
    go_upto_region 8 with (first | ((with_reducible refine gate_callee (f := 20) rfl ?_); refine goesL_ (some 19) rfl rfl Try.func20 (by kernel_rfl) rfl #[] rfl (by (try simp only [List.map_toArray, List.map_cons, List.map_nil]); first | done | rfl | (simp only [List.length_drop, List.length_take]; rfl)) ?_; (with_reducible refine (corrallaw1_first.calls k  true _ A3.out).mono ?_); rintro e w10 ⟨rfl, hb⟩; refine ⟨_, rfl, ?_⟩; have n0_ := Aside0.mk (below_step (by repeat (first | (with_reducible first | exact HB.out | apply below_alloc | apply pw_below_drewN | apply below_drew1) | exact HB.out)) hb); clear HB; have HB := n0_; clear n0_; (try clear hb); (try clear hb2); (try clear hk); (try clear hi)) | ((with_reducible refine gate_callee (f := 26) rfl ?_); refine goesL_ (some 24) rfl rfl Try.func26 (by kernel_rfl) rfl #[.int .u32 a0, .int .u32 a1, .bool false] rfl (by (try simp only [List.map_toArray, List.map_cons, List.map_nil]); first | done | rfl | (simp only [List.length_drop, List.length_take]; rfl)) ?_; (with_reducible refine (word_Div.calls k a0 a1 false t114 _ A5.out).mono ?_); rintro e w' ⟨rfl, ⟨nd, rfl⟩⟩; refine ⟨_, rfl, ?_⟩) | ((with_reducible refine gate_callee (f := 27) rfl ?_); refine goesL_ (some 27) rfl rfl Try.func27 (by kernel_rfl) rfl #[.int .u32 a0, .int .u32 a1, .bool false] rfl (by (try simp only [List.map_toArray, List.map_cons, List.map_nil]); first | done | rfl | (simp only [List.length_drop, List.length_take]; rfl)) ?_; (with_reducible refine (word_Rem.calls k a0 a1 false t115 _ A6.out).mono ?_); rintro e w' ⟨rfl, ⟨nd, rfl⟩⟩; refine ⟨_, rfl, ?_⟩) | ((with_reducible refine gate_callee (f := 26) rfl ?_); refine goesL_ (some 30) rfl rfl Try.func26 (by kernel_rfl) rfl #[.int .u32 a0, .int .u32 a1, .bool true] rfl (by (try simp only [List.map_toArray, List.map_cons, List.map_nil]); first | done | rfl | (simp only [List.length_drop, List.length_take]; rfl)) ?_; (with_reducible refine (word_Div.calls k a0 a1 true t116 _ A7.out).mono ?_); rintro e w' ⟨rfl, ⟨nd, rfl⟩⟩; refine ⟨_, rfl, ?_⟩) | ((with_reducible refine gate_callee (f := 27) rfl ?_); refine goesL_ (some 33) rfl rfl Try.func27 (by kernel_rfl) rfl #[.int .u32 a0, .int .u32 a1, .bool true] rfl (by (try simp only [List.map_toArray, List.map_cons, List.map_nil]); first | done | rfl | (simp only [List.length_drop, List.length_take]; rfl)) ?_; (with_reducible refine (word_Rem.calls k a0 a1 true t117 _ A8.out).mono ?_); rintro e w' ⟨rfl, ⟨nd, rfl⟩⟩; refine ⟨_, rfl, ?_⟩))
    (try simp only [Act.put, List.setIfInBounds_toArray, List.set_cons_zero, List.set_cons_succ])
    go_cut [57] (fun v57 wc => ∃ (kq : Nat) (x57_8 : Bool), v57 = .bool x57_8 ∧ Aside0 (corrallaw1_WordDivides.j0 kq a0 a1 true t114 t115 t116 t117 x57_8 = some r) ∧ Aside0 (kq ≤ k) ∧ Aside0 (Below w.heap.size w wc))
    case first =>
      have H := HC9.out
      clear HC9
      by_cases c11 : (((t114 * a1) + t115) % 4294967296) = a0
      · rw [if_pos c11] at H
        have c11b0 : ((((t114 * a1) + t115) % 4294967296) == a0) = true := beq_iff_eq.mpr c11
        have c11b1 : ((((t114 * a1) + t115) % 4294967296) != a0) = false := bne_eq_false_iff_eq.mpr c11
        clear c11
        (first | rw [c11b0] | (simp only [i64_w, i32_w]; rw [c11b0]) | skip)
        by_cases c12 : (((t116 * a1) + t117) % 4294967296) = a0
        · rw [if_pos c12] at H
          have c12b0 : ((((t116 * a1) + t117) % 4294967296) == a0) = true := beq_iff_eq.mpr c12
          have c12b1 : ((((t116 * a1) + t117) % 4294967296) != a0) = false := bne_eq_false_iff_eq.mpr c12
          clear c12
          have H' := Aside0.mk H
          clear H
          go_wp2
          go_meet
          case rel => exact ⟨_, (false), (by first | rfl | (simp; done) | (simp [*]; done)), H', ⟨by first | omega | exact Nat.le_refl _⟩, ⟨by repeat (first | (with_reducible first | exact HB.out | apply below_alloc | apply pw_below_drewN | apply below_drew1) | exact HB.out)⟩⟩
        · rw [if_neg c12] at H
          have c12b0 : ((((t116 * a1) + t117) % 4294967296) == a0) = false := beq_eq_false_iff_ne.mpr c12
          have c12b1 : ((((t116 * a1) + t117) % 4294967296) != a0) = true := bne_iff_ne.mpr c12
          have H' := Aside0.mk H
          clear H
          go_wp2
          go_meet
          case rel => exact ⟨_, ((a1 != 0)), (by first | rfl | (simp; done) | (simp [*]; done)), H', ⟨by first | omega | exact Nat.le_refl _⟩, ⟨by repeat (first | (with_reducible first | exact HB.out | apply below_alloc | apply pw_below_drewN | apply below_drew1) | exact HB.out)⟩⟩
      · rw [if_neg c11] at H
        have c11b0 : ((((t114 * a1) + t115) % 4294967296) == a0) = false := beq_eq_false_iff_ne.mpr c11
        have c11b1 : ((((t114 * a1) + t115) % 4294967296) != a0) = true := bne_iff_ne.mpr c11
        (first | rw [c11b0] | (simp only [i64_w, i32_w]; rw [c11b0]) | skip)
        by_cases c13 : a1 = 0
        · rw [if_pos c13] at H
          have c13b0 : (a1 == 0) = true := beq_iff_eq.mpr c13
          have c13b1 : (a1 != 0) = false := bne_eq_false_iff_eq.mpr c13
          clear c13
          by_cases c14 : (((t116 * a1) + t117) % 4294967296) = a0
          · rw [if_pos c14] at H
            have c14b0 : ((((t116 * a1) + t117) % 4294967296) == a0) = true := beq_iff_eq.mpr c14
            have c14b1 : ((((t116 * a1) + t117) % 4294967296) != a0) = false := bne_eq_false_iff_eq.mpr c14
            clear c14
            have H' := Aside0.mk H
            clear H
            go_wp2
            go_meet
            case rel => exact ⟨_, (false), (by first | rfl | (simp; done) | (simp [*]; done)), H', ⟨by first | omega | exact Nat.le_refl _⟩, ⟨by repeat (first | (with_reducible first | exact HB.out | apply below_alloc | apply pw_below_drewN | apply below_drew1) | exact HB.out)⟩⟩
          · rw [if_neg c14] at H
            have c14b0 : ((((t116 * a1) + t117) % 4294967296) == a0) = false := beq_eq_false_iff_ne.mpr c14
            have c14b1 : ((((t116 * a1) + t117) % 4294967296) != a0) = true := bne_iff_ne.mpr c14
            have H' := Aside0.mk H
            clear H
            go_wp2
            go_meet
            case rel => exact ⟨_, ((a1 != 0)), (by first | rfl | (simp; done) | (simp [*]; done)), H', ⟨by first | omega | exact Nat.le_refl _⟩, ⟨by repeat (first | (with_reducible first | exact HB.out | apply below_alloc | apply pw_below_drewN | apply below_drew1) | exact HB.out)⟩⟩
        · rw [if_neg c13] at H
          have c13b0 : (a1 == 0) = false := beq_eq_false_iff_ne.mpr c13
          have c13b1 : (a1 != 0) = true := bne_iff_ne.mpr c13
          have H' := Aside0.mk H
          clear H
          go_wp2
          go_meet
          case rel => exact ⟨_, (true), (by first | rfl | (simp; done) | (simp [*]; done)), H', ⟨by first | omega | exact Nat.le_refl _⟩, ⟨by repeat (first | (with_reducible first | exact HB.out | apply below_alloc | apply pw_below_drewN | apply below_drew1) | exact HB.out)⟩⟩
    case rest =>
      clear HC9
      try clear c1
      try clear c2
      try clear p2
      try clear c4
      try clear c8
      try clear c11
      try clear c11b0
      try clear c11b1
      try clear c12
      try clear c12b0
      try clear c12b1
      try clear c13
      try clear c13b0
      try clear c13b1
      try clear c14
      try clear c14b0
      try clear c14b1
      obtain ⟨kq, x57_8, rfl, HA, HJ8, HB⟩ := hcut
      cases kq with
      | zero => exact absurd HA.out (by simp [corrallaw1_WordDivides.j0])
      | succ kj8 =>
        have H := HA.out
        clear HA
        simp only [corrallaw1_WordDivides.j0] at H
        by_cases c15 : x57_8 = true
        · subst c15
          have H1 : (some false) = some r := by rw [if_pos rfl] at H; exact H
          clear H
          have H := H1
          clear H1
          exact absurd (Option.some.inj H) (by rw [HRT.out]; decide)
        · replace c15 := Bool.eq_false_iff.mpr c15
          subst c15
          have H1 : (if a1 = 0 then (if true = true then (if t114 = 4294967295 then (if t116 = 4294967295 then (if t115 = a0 then (some (t117 == a0)) else (some false)) else (some false)) else (some false)) else (some false)) else (if t115 ≥ a1 then (corrallaw1_WordDivides.j1 kj8 a0 a1 true true) else (if t117 = 0 then (corrallaw1_WordDivides.j1 kj8 a0 a1 true false) else ((word_Less.f t117 0 true).bind fun t118 => ((word_Less.f a0 0 true).bind fun t119 => (corrallaw1_WordDivides.j1 kj8 a0 a1 true (t118 != t119))))))) = some r := by rw [if_neg (show ¬ (false = true) by decide)] at H; exact H
          clear H
          have H := H1
          clear H1
          by_cases c16 : a1 = 0
          · rw [if_pos c16] at H
            have c16b0 : (a1 == 0) = true := beq_iff_eq.mpr c16
            have c16b1 : (a1 != 0) = false := bne_eq_false_iff_eq.mpr c16
            clear c16
            replace H : (if t114 = 4294967295 then (if t116 = 4294967295 then (if t115 = a0 then (some (t117 == a0)) else (some false)) else (some false)) else (some false)) = some r := by first | (rw [if_pos rfl] at H; exact H) | (rw [if_pos trivial] at H; exact H)
            by_cases c17 : t114 = 4294967295
            · rw [if_pos c17] at H
              have c17b0 : (t114 == 4294967295) = true := beq_iff_eq.mpr c17
              have c17b1 : (t114 != 4294967295) = false := bne_eq_false_iff_eq.mpr c17
              clear c17
              by_cases c18 : t116 = 4294967295
              · rw [if_pos c18] at H
                have c18b0 : (t116 == 4294967295) = true := beq_iff_eq.mpr c18
                have c18b1 : (t116 != 4294967295) = false := bne_eq_false_iff_eq.mpr c18
                clear c18
                by_cases c19 : t115 = a0
                · rw [if_pos c19] at H
                  have c19b0 : (t115 == a0) = true := beq_iff_eq.mpr c19
                  have c19b1 : (t115 != a0) = false := bne_eq_false_iff_eq.mpr c19
                  clear c19
                  clear HRT
                  obtain rfl := Option.some.inj H
                  go_wp2
                  go_ret
                  exact ⟨by first | rfl | (simp [errW_none, errW_some] <;> rfl) | (simp [*, errW_none, errW_some] <;> rfl), by repeat (first | (with_reducible first | exact HB.out | apply below_alloc | apply pw_below_drewN | apply below_drew1) | exact HB.out)⟩
                · rw [if_neg c19] at H
                  have c19b0 : (t115 == a0) = false := beq_eq_false_iff_ne.mpr c19
                  have c19b1 : (t115 != a0) = true := bne_iff_ne.mpr c19
                  exact absurd (Option.some.inj H) (by rw [HRT.out]; decide)
              · rw [if_neg c18] at H
                have c18b0 : (t116 == 4294967295) = false := beq_eq_false_iff_ne.mpr c18
                have c18b1 : (t116 != 4294967295) = true := bne_iff_ne.mpr c18
                exact absurd (Option.some.inj H) (by rw [HRT.out]; decide)
            · rw [if_neg c17] at H
              have c17b0 : (t114 == 4294967295) = false := beq_eq_false_iff_ne.mpr c17
              have c17b1 : (t114 != 4294967295) = true := bne_iff_ne.mpr c17
              exact absurd (Option.some.inj H) (by rw [HRT.out]; decide)
          · rw [if_neg c16] at H
            have c16b0 : (a1 == 0) = false := beq_eq_false_iff_ne.mpr c16
            have c16b1 : (a1 != 0) = true := bne_iff_ne.mpr c16
            have HC20 := Aside0.mk H
            clear H
            go_upto_region 12 with (fail)
            go_cut [92] (fun v92 wc => ∃ (kq : Nat) (x92_19 : Bool), v92 = .bool x92_19 ∧ Aside0 (corrallaw1_WordDivides.j1 kq a0 a1 true x92_19 = some r) ∧ Aside0 (kq ≤ kj8) ∧ Aside0 (Below w.heap.size w wc))
            case first =>
              have H := HC20.out
              clear HC20
              by_cases c21 : t115 ≥ a1
              · rw [if_pos c21] at H
                have c21b0 : decide (a1 ≤ t115) = true := decide_eq_true c21
                clear c21
                (first | rw [c21b0] | (simp only [i64_w, i32_w]; rw [c21b0]) | skip)
                have H' := Aside0.mk H
                clear H
                go_wp2
                go_meet
                case rel => exact ⟨_, (true), (by first | rfl | (simp; done) | (simp [*]; done)), H', ⟨by have := HJ8.out; first | omega | exact Nat.le_refl _⟩, ⟨by repeat (first | (with_reducible first | exact HB.out | apply below_alloc | apply pw_below_drewN | apply below_drew1) | exact HB.out)⟩⟩
              · rw [if_neg c21] at H
                have c21b0 : decide (a1 ≤ t115) = false := decide_eq_false c21
                clear c21
                (first | rw [c21b0] | (simp only [i64_w, i32_w]; rw [c21b0]) | skip)
                by_cases c22 : t117 = 0
                · rw [if_pos c22] at H
                  have c22b0 : (t117 == 0) = true := beq_iff_eq.mpr c22
                  have c22b1 : (t117 != 0) = false := bne_eq_false_iff_eq.mpr c22
                  clear c22
                  have H' := Aside0.mk H
                  clear H
                  go_wp2
                  go_meet
                  case rel => exact ⟨_, (false), (by first | rfl | (simp; done) | (simp [*]; done)), H', ⟨by have := HJ8.out; first | omega | exact Nat.le_refl _⟩, ⟨by repeat (first | (with_reducible first | exact HB.out | apply below_alloc | apply pw_below_drewN | apply below_drew1) | exact HB.out)⟩⟩
                · rw [if_neg c22] at H
                  have c22b0 : (t117 == 0) = false := beq_eq_false_iff_ne.mpr c22
                  have c22b1 : (t117 != 0) = true := bne_iff_ne.mpr c22
                  replace H := Option.bind_eq_some_iff.mp H
                  obtain ⟨t118, A230, H⟩ := H
                  replace H : ((word_Less.f a0 0 true).bind fun t119 => (corrallaw1_WordDivides.j1 kj8 a0 a1 true (t118 != t119))) = some r := H
                  have A23 := Aside0.mk A230
                  clear A230
                  replace H := Option.bind_eq_some_iff.mp H
                  obtain ⟨t119, A240, H⟩ := H
                  replace H : (corrallaw1_WordDivides.j1 kj8 a0 a1 true (t118 != t119)) = some r := H
                  have A24 := Aside0.mk A240
                  clear A240
                  have H' := Aside0.mk H
                  clear H
                  go_wp2_with (first | (go_at_call 28; (with_reducible refine (word_Less.calls t117 0 true t118 _ A23.out).mono ?_); rintro e w' ⟨rfl, ⟨nd, rfl⟩⟩) | (go_at_call 28; (with_reducible refine (word_Less.calls a0 0 true t119 _ A24.out).mono ?_); rintro e w' ⟨rfl, ⟨nd, rfl⟩⟩))
                  go_meet
                  case rel => exact ⟨_, ((t118 != t119)), (by first | rfl | (simp; done) | (simp [*]; done)), H', ⟨by have := HJ8.out; first | omega | exact Nat.le_refl _⟩, ⟨by repeat (first | (with_reducible first | exact HB.out | apply below_alloc | apply pw_below_drewN | apply below_drew1) | exact HB.out)⟩⟩
            case rest =>
              clear HC20
              try clear c1
              try clear c2
              try clear p2
              try clear c4
              try clear c8
              try clear c11
              try clear c11b0
              try clear c11b1
              try clear c12
              try clear c12b0
              try clear c12b1
              try clear c13
              try clear c13b0
              try clear c13b1
              try clear c14
              try clear c14b0
              try clear c14b1
              try clear c15
              try clear c16
              try clear c16b0
              try clear c16b1
              try clear c17
              try clear c17b0
              try clear c17b1
              try clear c18
              try clear c18b0
              try clear c18b1
              try clear c19
              try clear c19b0
              try clear c19b1
              try clear c20
              try clear c21
              try clear c21b0
              try clear c22
              try clear c22b0
              try clear c22b1
              try clear p2
              obtain ⟨kq, x92_19, rfl, HA, HJ19, HB⟩ := hcut
              cases kq with
              | zero => exact absurd HA.out (by simp [corrallaw1_WordDivides.j1])
              | succ kj19 =>
                have H := HA.out
                clear HA
                simp only [corrallaw1_WordDivides.j1] at H
                by_cases c25 : x92_19 = true
                · subst c25
                  have H1 : (some false) = some r := by rw [if_pos rfl] at H; exact H
                  clear H
                  have H := H1
                  clear H1
                  exact absurd (Option.some.inj H) (by rw [HRT.out]; decide)
                · replace c25 := Bool.eq_false_iff.mpr c25
                  subst c25
                  have H1 : ((word_Less.f a0 0 true).bind fun t120 => (if t120 = true then (corrallaw1_WordDivides.j2 kj19 a0 a1 true (((((a0 / 65536) * (a1 / 65536)) + (((((a0 / 65536) * (Go.bits .and .u32 a1 65535)) + ((((Go.bits .and .u32 a0 65535) * (Go.bits .and .u32 a1 65535)) % 4294967296) / 65536)) % 4294967296) / 65536)) + ((((Go.bits .and .u32 ((((a0 / 65536) * (Go.bits .and .u32 a1 65535)) + ((((Go.bits .and .u32 a0 65535) * (Go.bits .and .u32 a1 65535)) % 4294967296) / 65536)) % 4294967296) 65535) + ((Go.bits .and .u32 a0 65535) * (a1 / 65536))) % 4294967296) / 65536)) % 4294967296) ((((((a0 / 65536) * (a1 / 65536)) + (((((a0 / 65536) * (Go.bits .and .u32 a1 65535)) + ((((Go.bits .and .u32 a0 65535) * (Go.bits .and .u32 a1 65535)) % 4294967296) / 65536)) % 4294967296) / 65536)) + ((((Go.bits .and .u32 ((((a0 / 65536) * (Go.bits .and .u32 a1 65535)) + ((((Go.bits .and .u32 a0 65535) * (Go.bits .and .u32 a1 65535)) % 4294967296) / 65536)) % 4294967296) 65535) + ((Go.bits .and .u32 a0 65535) * (a1 / 65536))) % 4294967296) / 65536)) - a1) % 4294967296)) else (corrallaw1_WordDivides.j2 kj19 a0 a1 true (((((a0 / 65536) * (a1 / 65536)) + (((((a0 / 65536) * (Go.bits .and .u32 a1 65535)) + ((((Go.bits .and .u32 a0 65535) * (Go.bits .and .u32 a1 65535)) % 4294967296) / 65536)) % 4294967296) / 65536)) + ((((Go.bits .and .u32 ((((a0 / 65536) * (Go.bits .and .u32 a1 65535)) + ((((Go.bits .and .u32 a0 65535) * (Go.bits .and .u32 a1 65535)) % 4294967296) / 65536)) % 4294967296) 65535) + ((Go.bits .and .u32 a0 65535) * (a1 / 65536))) % 4294967296) / 65536)) % 4294967296) (((((a0 / 65536) * (a1 / 65536)) + (((((a0 / 65536) * (Go.bits .and .u32 a1 65535)) + ((((Go.bits .and .u32 a0 65535) * (Go.bits .and .u32 a1 65535)) % 4294967296) / 65536)) % 4294967296) / 65536)) + ((((Go.bits .and .u32 ((((a0 / 65536) * (Go.bits .and .u32 a1 65535)) + ((((Go.bits .and .u32 a0 65535) * (Go.bits .and .u32 a1 65535)) % 4294967296) / 65536)) % 4294967296) 65535) + ((Go.bits .and .u32 a0 65535) * (a1 / 65536))) % 4294967296) / 65536)) % 4294967296)))) = some r := by rw [if_neg (show ¬ (false = true) by decide)] at H; exact H
                  clear H
                  have H := H1
                  clear H1
                  replace H := Option.bind_eq_some_iff.mp H
                  obtain ⟨t120, A260, H⟩ := H
                  replace H : (if t120 = true then (corrallaw1_WordDivides.j2 kj19 a0 a1 true (((((a0 / 65536) * (a1 / 65536)) + (((((a0 / 65536) * (Go.bits .and .u32 a1 65535)) + ((((Go.bits .and .u32 a0 65535) * (Go.bits .and .u32 a1 65535)) % 4294967296) / 65536)) % 4294967296) / 65536)) + ((((Go.bits .and .u32 ((((a0 / 65536) * (Go.bits .and .u32 a1 65535)) + ((((Go.bits .and .u32 a0 65535) * (Go.bits .and .u32 a1 65535)) % 4294967296) / 65536)) % 4294967296) 65535) + ((Go.bits .and .u32 a0 65535) * (a1 / 65536))) % 4294967296) / 65536)) % 4294967296) ((((((a0 / 65536) * (a1 / 65536)) + (((((a0 / 65536) * (Go.bits .and .u32 a1 65535)) + ((((Go.bits .and .u32 a0 65535) * (Go.bits .and .u32 a1 65535)) % 4294967296) / 65536)) % 4294967296) / 65536)) + ((((Go.bits .and .u32 ((((a0 / 65536) * (Go.bits .and .u32 a1 65535)) + ((((Go.bits .and .u32 a0 65535) * (Go.bits .and .u32 a1 65535)) % 4294967296) / 65536)) % 4294967296) 65535) + ((Go.bits .and .u32 a0 65535) * (a1 / 65536))) % 4294967296) / 65536)) - a1) % 4294967296)) else (corrallaw1_WordDivides.j2 kj19 a0 a1 true (((((a0 / 65536) * (a1 / 65536)) + (((((a0 / 65536) * (Go.bits .and .u32 a1 65535)) + ((((Go.bits .and .u32 a0 65535) * (Go.bits .and .u32 a1 65535)) % 4294967296) / 65536)) % 4294967296) / 65536)) + ((((Go.bits .and .u32 ((((a0 / 65536) * (Go.bits .and .u32 a1 65535)) + ((((Go.bits .and .u32 a0 65535) * (Go.bits .and .u32 a1 65535)) % 4294967296) / 65536)) % 4294967296) 65535) + ((Go.bits .and .u32 a0 65535) * (a1 / 65536))) % 4294967296) / 65536)) % 4294967296) (((((a0 / 65536) * (a1 / 65536)) + (((((a0 / 65536) * (Go.bits .and .u32 a1 65535)) + ((((Go.bits .and .u32 a0 65535) * (Go.bits .and .u32 a1 65535)) % 4294967296) / 65536)) % 4294967296) / 65536)) + ((((Go.bits .and .u32 ((((a0 / 65536) * (Go.bits .and .u32 a1 65535)) + ((((Go.bits .and .u32 a0 65535) * (Go.bits .and .u32 a1 65535)) % 4294967296) / 65536)) % 4294967296) 65535) + ((Go.bits .and .u32 a0 65535) * (a1 / 65536))) % 4294967296) / 65536)) % 4294967296))) = some r := H
                  have A26 := Aside0.mk A260
                  clear A260
                  have HC27 := Aside0.mk H
                  clear H
                  go_upto_if 126 with (first | ((with_reducible refine gate_callee (f := 28) rfl ?_); refine goesL_ (some 126) rfl rfl Try.func28 (by kernel_rfl) rfl #[.int .u32 a0, .int .u32 0, .bool true] rfl (by (try simp only [List.map_toArray, List.map_cons, List.map_nil]); first | done | rfl | (simp only [List.length_drop, List.length_take]; rfl)) ?_; (with_reducible refine (word_Less.calls a0 0 true t120 _ A26.out).mono ?_); rintro e w' ⟨rfl, ⟨nd, rfl⟩⟩; refine ⟨_, rfl, ?_⟩))
                  (try simp only [Act.put, List.setIfInBounds_toArray, List.set_cons_zero, List.set_cons_succ])
                  go_cut [17] (fun v17 wc => ∃ (kq : Nat) (x17_26 : Int), v17 = .int .u32 x17_26 ∧ Aside0 (corrallaw1_WordDivides.j2 kq a0 a1 true (((((a0 / 65536) * (a1 / 65536)) + (((((a0 / 65536) * (Go.bits .and .u32 a1 65535)) + ((((Go.bits .and .u32 a0 65535) * (Go.bits .and .u32 a1 65535)) % 4294967296) / 65536)) % 4294967296) / 65536)) + ((((Go.bits .and .u32 ((((a0 / 65536) * (Go.bits .and .u32 a1 65535)) + ((((Go.bits .and .u32 a0 65535) * (Go.bits .and .u32 a1 65535)) % 4294967296) / 65536)) % 4294967296) 65535) + ((Go.bits .and .u32 a0 65535) * (a1 / 65536))) % 4294967296) / 65536)) % 4294967296) x17_26 = some r) ∧ Aside0 (kq ≤ kj19) ∧ Aside0 (Below w.heap.size w wc))
                  case first =>
                    have H := HC27.out
                    clear HC27
                    by_cases c28 : t120 = true
                    · subst c28
                      have H1 : (corrallaw1_WordDivides.j2 kj19 a0 a1 true (((((a0 / 65536) * (a1 / 65536)) + (((((a0 / 65536) * (Go.bits .and .u32 a1 65535)) + ((((Go.bits .and .u32 a0 65535) * (Go.bits .and .u32 a1 65535)) % 4294967296) / 65536)) % 4294967296) / 65536)) + ((((Go.bits .and .u32 ((((a0 / 65536) * (Go.bits .and .u32 a1 65535)) + ((((Go.bits .and .u32 a0 65535) * (Go.bits .and .u32 a1 65535)) % 4294967296) / 65536)) % 4294967296) 65535) + ((Go.bits .and .u32 a0 65535) * (a1 / 65536))) % 4294967296) / 65536)) % 4294967296) ((((((a0 / 65536) * (a1 / 65536)) + (((((a0 / 65536) * (Go.bits .and .u32 a1 65535)) + ((((Go.bits .and .u32 a0 65535) * (Go.bits .and .u32 a1 65535)) % 4294967296) / 65536)) % 4294967296) / 65536)) + ((((Go.bits .and .u32 ((((a0 / 65536) * (Go.bits .and .u32 a1 65535)) + ((((Go.bits .and .u32 a0 65535) * (Go.bits .and .u32 a1 65535)) % 4294967296) / 65536)) % 4294967296) 65535) + ((Go.bits .and .u32 a0 65535) * (a1 / 65536))) % 4294967296) / 65536)) - a1) % 4294967296)) = some r := by rw [if_pos rfl] at H; exact H
                      clear H
                      have H := H1
                      clear H1
                      have H' := Aside0.mk H
                      clear H
                      go_wp2
                      go_meet
                      case rel => exact ⟨_, ((((((a0 / 65536) * (a1 / 65536)) + (((((a0 / 65536) * (Go.bits .and .u32 a1 65535)) + ((((Go.bits .and .u32 a0 65535) * (Go.bits .and .u32 a1 65535)) % 4294967296) / 65536)) % 4294967296) / 65536)) + ((((Go.bits .and .u32 ((((a0 / 65536) * (Go.bits .and .u32 a1 65535)) + ((((Go.bits .and .u32 a0 65535) * (Go.bits .and .u32 a1 65535)) % 4294967296) / 65536)) % 4294967296) 65535) + ((Go.bits .and .u32 a0 65535) * (a1 / 65536))) % 4294967296) / 65536)) - a1) % 4294967296), (by first | rfl | (simp; done) | (simp [*]; done)), H', ⟨by have := HJ8.out; have := HJ19.out; first | omega | exact Nat.le_refl _⟩, ⟨by repeat (first | (with_reducible first | exact HB.out | apply below_alloc | apply pw_below_drewN | apply below_drew1) | exact HB.out)⟩⟩
                    · replace c28 := Bool.eq_false_iff.mpr c28
                      subst c28
                      have H1 : (corrallaw1_WordDivides.j2 kj19 a0 a1 true (((((a0 / 65536) * (a1 / 65536)) + (((((a0 / 65536) * (Go.bits .and .u32 a1 65535)) + ((((Go.bits .and .u32 a0 65535) * (Go.bits .and .u32 a1 65535)) % 4294967296) / 65536)) % 4294967296) / 65536)) + ((((Go.bits .and .u32 ((((a0 / 65536) * (Go.bits .and .u32 a1 65535)) + ((((Go.bits .and .u32 a0 65535) * (Go.bits .and .u32 a1 65535)) % 4294967296) / 65536)) % 4294967296) 65535) + ((Go.bits .and .u32 a0 65535) * (a1 / 65536))) % 4294967296) / 65536)) % 4294967296) (((((a0 / 65536) * (a1 / 65536)) + (((((a0 / 65536) * (Go.bits .and .u32 a1 65535)) + ((((Go.bits .and .u32 a0 65535) * (Go.bits .and .u32 a1 65535)) % 4294967296) / 65536)) % 4294967296) / 65536)) + ((((Go.bits .and .u32 ((((a0 / 65536) * (Go.bits .and .u32 a1 65535)) + ((((Go.bits .and .u32 a0 65535) * (Go.bits .and .u32 a1 65535)) % 4294967296) / 65536)) % 4294967296) 65535) + ((Go.bits .and .u32 a0 65535) * (a1 / 65536))) % 4294967296) / 65536)) % 4294967296)) = some r := by rw [if_neg (show ¬ (false = true) by decide)] at H; exact H
                      clear H
                      have H := H1
                      clear H1
                      have H' := Aside0.mk H
                      clear H
                      go_wp2
                      go_meet
                      case rel => exact ⟨_, (((((a0 / 65536) * (a1 / 65536)) + (((((a0 / 65536) * (Go.bits .and .u32 a1 65535)) + ((((Go.bits .and .u32 a0 65535) * (Go.bits .and .u32 a1 65535)) % 4294967296) / 65536)) % 4294967296) / 65536)) + ((((Go.bits .and .u32 ((((a0 / 65536) * (Go.bits .and .u32 a1 65535)) + ((((Go.bits .and .u32 a0 65535) * (Go.bits .and .u32 a1 65535)) % 4294967296) / 65536)) % 4294967296) 65535) + ((Go.bits .and .u32 a0 65535) * (a1 / 65536))) % 4294967296) / 65536)) % 4294967296), (by first | rfl | (simp; done) | (simp [*]; done)), H', ⟨by have := HJ8.out; have := HJ19.out; first | omega | exact Nat.le_refl _⟩, ⟨by repeat (first | (with_reducible first | exact HB.out | apply below_alloc | apply pw_below_drewN | apply below_drew1) | exact HB.out)⟩⟩
                  case rest =>
                    clear HC27
                    try clear c1
                    try clear c2
                    try clear p2
                    try clear c4
                    try clear c8
                    try clear c11
                    try clear c11b0
                    try clear c11b1
                    try clear c12
                    try clear c12b0
                    try clear c12b1
                    try clear c13
                    try clear c13b0
                    try clear c13b1
                    try clear c14
                    try clear c14b0
                    try clear c14b1
                    try clear c15
                    try clear c16
                    try clear c16b0
                    try clear c16b1
                    try clear c17
                    try clear c17b0
                    try clear c17b1
                    try clear c18
                    try clear c18b0
                    try clear c18b1
                    try clear c19
                    try clear c19b0
                    try clear c19b1
                    try clear c20
                    try clear c21
                    try clear c21b0
                    try clear c22
                    try clear c22b0
                    try clear c22b1
                    try clear c25
                    try clear c26
                    try clear c27
                    try clear c28
                    try clear p2
                    obtain ⟨kq, x17_26, rfl, HA, HJ26, HB⟩ := hcut
                    cases kq with
                    | zero => exact absurd HA.out (by simp [corrallaw1_WordDivides.j2])
                    | succ kj26 =>
                      have H := HA.out
                      clear HA
                      simp only [corrallaw1_WordDivides.j2] at H
                      replace H := Option.bind_eq_some_iff.mp H
                      obtain ⟨t121, A290, H⟩ := H
                      replace H : (if t121 = true then (if true = true then ((word_High.f a0 a1 false false).bind fun t122 => (if t122 = (((((a0 / 65536) * (a1 / 65536)) + (((((a0 / 65536) * (Go.bits .and .u32 a1 65535)) + ((((Go.bits .and .u32 a0 65535) * (Go.bits .and .u32 a1 65535)) % 4294967296) / 65536)) % 4294967296) / 65536)) + ((((Go.bits .and .u32 ((((a0 / 65536) * (Go.bits .and .u32 a1 65535)) + ((((Go.bits .and .u32 a0 65535) * (Go.bits .and .u32 a1 65535)) % 4294967296) / 65536)) % 4294967296) 65535) + ((Go.bits .and .u32 a0 65535) * (a1 / 65536))) % 4294967296) / 65536)) % 4294967296) then ((word_High.f a0 a1 true false).bind fun t123 => (if t123 = x17_26 then ((word_High.f a0 a1 true true).bind fun t124 => (some (t124 == ((x17_26 - a0) % 4294967296)))) else (some false))) else (some false))) else (some false)) else (if true = true then ((word_High.f a0 a1 false false).bind fun t125 => (if t125 = (((((a0 / 65536) * (a1 / 65536)) + (((((a0 / 65536) * (Go.bits .and .u32 a1 65535)) + ((((Go.bits .and .u32 a0 65535) * (Go.bits .and .u32 a1 65535)) % 4294967296) / 65536)) % 4294967296) / 65536)) + ((((Go.bits .and .u32 ((((a0 / 65536) * (Go.bits .and .u32 a1 65535)) + ((((Go.bits .and .u32 a0 65535) * (Go.bits .and .u32 a1 65535)) % 4294967296) / 65536)) % 4294967296) 65535) + ((Go.bits .and .u32 a0 65535) * (a1 / 65536))) % 4294967296) / 65536)) % 4294967296) then ((word_High.f a0 a1 true false).bind fun t126 => (if t126 = x17_26 then ((word_High.f a0 a1 true true).bind fun t127 => (some (t127 == x17_26))) else (some false))) else (some false))) else (some false))) = some r := H
                      have A29 := Aside0.mk A290
                      clear A290
                      by_cases c30 : t121 = true
                      · subst c30
                        have H1 : (if true = true then ((word_High.f a0 a1 false false).bind fun t122 => (if t122 = (((((a0 / 65536) * (a1 / 65536)) + (((((a0 / 65536) * (Go.bits .and .u32 a1 65535)) + ((((Go.bits .and .u32 a0 65535) * (Go.bits .and .u32 a1 65535)) % 4294967296) / 65536)) % 4294967296) / 65536)) + ((((Go.bits .and .u32 ((((a0 / 65536) * (Go.bits .and .u32 a1 65535)) + ((((Go.bits .and .u32 a0 65535) * (Go.bits .and .u32 a1 65535)) % 4294967296) / 65536)) % 4294967296) 65535) + ((Go.bits .and .u32 a0 65535) * (a1 / 65536))) % 4294967296) / 65536)) % 4294967296) then ((word_High.f a0 a1 true false).bind fun t123 => (if t123 = x17_26 then ((word_High.f a0 a1 true true).bind fun t124 => (some (t124 == ((x17_26 - a0) % 4294967296)))) else (some false))) else (some false))) else (some false)) = some r := by rw [if_pos rfl] at H; exact H
                        clear H
                        have H := H1
                        clear H1
                        replace H : ((word_High.f a0 a1 false false).bind fun t122 => (if t122 = (((((a0 / 65536) * (a1 / 65536)) + (((((a0 / 65536) * (Go.bits .and .u32 a1 65535)) + ((((Go.bits .and .u32 a0 65535) * (Go.bits .and .u32 a1 65535)) % 4294967296) / 65536)) % 4294967296) / 65536)) + ((((Go.bits .and .u32 ((((a0 / 65536) * (Go.bits .and .u32 a1 65535)) + ((((Go.bits .and .u32 a0 65535) * (Go.bits .and .u32 a1 65535)) % 4294967296) / 65536)) % 4294967296) 65535) + ((Go.bits .and .u32 a0 65535) * (a1 / 65536))) % 4294967296) / 65536)) % 4294967296) then ((word_High.f a0 a1 true false).bind fun t123 => (if t123 = x17_26 then ((word_High.f a0 a1 true true).bind fun t124 => (some (t124 == ((x17_26 - a0) % 4294967296)))) else (some false))) else (some false))) = some r := by first | (rw [if_pos rfl] at H; exact H) | (rw [if_pos trivial] at H; exact H)
                        replace H := Option.bind_eq_some_iff.mp H
                        obtain ⟨t122, A310, H⟩ := H
                        replace H : (if t122 = (((((a0 / 65536) * (a1 / 65536)) + (((((a0 / 65536) * (Go.bits .and .u32 a1 65535)) + ((((Go.bits .and .u32 a0 65535) * (Go.bits .and .u32 a1 65535)) % 4294967296) / 65536)) % 4294967296) / 65536)) + ((((Go.bits .and .u32 ((((a0 / 65536) * (Go.bits .and .u32 a1 65535)) + ((((Go.bits .and .u32 a0 65535) * (Go.bits .and .u32 a1 65535)) % 4294967296) / 65536)) % 4294967296) 65535) + ((Go.bits .and .u32 a0 65535) * (a1 / 65536))) % 4294967296) / 65536)) % 4294967296) then ((word_High.f a0 a1 true false).bind fun t123 => (if t123 = x17_26 then ((word_High.f a0 a1 true true).bind fun t124 => (some (t124 == ((x17_26 - a0) % 4294967296)))) else (some false))) else (some false)) = some r := H
                        have A31 := Aside0.mk A310
                        clear A310
                        by_cases c32 : t122 = (((((a0 / 65536) * (a1 / 65536)) + (((((a0 / 65536) * (Go.bits .and .u32 a1 65535)) + ((((Go.bits .and .u32 a0 65535) * (Go.bits .and .u32 a1 65535)) % 4294967296) / 65536)) % 4294967296) / 65536)) + ((((Go.bits .and .u32 ((((a0 / 65536) * (Go.bits .and .u32 a1 65535)) + ((((Go.bits .and .u32 a0 65535) * (Go.bits .and .u32 a1 65535)) % 4294967296) / 65536)) % 4294967296) 65535) + ((Go.bits .and .u32 a0 65535) * (a1 / 65536))) % 4294967296) / 65536)) % 4294967296)
                        · rw [if_pos c32] at H
                          have c32b0 : (t122 == (((((a0 / 65536) * (a1 / 65536)) + (((((a0 / 65536) * (Go.bits .and .u32 a1 65535)) + ((((Go.bits .and .u32 a0 65535) * (Go.bits .and .u32 a1 65535)) % 4294967296) / 65536)) % 4294967296) / 65536)) + ((((Go.bits .and .u32 ((((a0 / 65536) * (Go.bits .and .u32 a1 65535)) + ((((Go.bits .and .u32 a0 65535) * (Go.bits .and .u32 a1 65535)) % 4294967296) / 65536)) % 4294967296) 65535) + ((Go.bits .and .u32 a0 65535) * (a1 / 65536))) % 4294967296) / 65536)) % 4294967296)) = true := beq_iff_eq.mpr c32
                          have c32b1 : (t122 != (((((a0 / 65536) * (a1 / 65536)) + (((((a0 / 65536) * (Go.bits .and .u32 a1 65535)) + ((((Go.bits .and .u32 a0 65535) * (Go.bits .and .u32 a1 65535)) % 4294967296) / 65536)) % 4294967296) / 65536)) + ((((Go.bits .and .u32 ((((a0 / 65536) * (Go.bits .and .u32 a1 65535)) + ((((Go.bits .and .u32 a0 65535) * (Go.bits .and .u32 a1 65535)) % 4294967296) / 65536)) % 4294967296) 65535) + ((Go.bits .and .u32 a0 65535) * (a1 / 65536))) % 4294967296) / 65536)) % 4294967296)) = false := bne_eq_false_iff_eq.mpr c32
                          clear c32
                          replace H := Option.bind_eq_some_iff.mp H
                          obtain ⟨t123, A330, H⟩ := H
                          replace H : (if t123 = x17_26 then ((word_High.f a0 a1 true true).bind fun t124 => (some (t124 == ((x17_26 - a0) % 4294967296)))) else (some false)) = some r := H
                          have A33 := Aside0.mk A330
                          clear A330
                          by_cases c34 : t123 = x17_26
                          · rw [if_pos c34] at H
                            have c34b0 : (t123 == x17_26) = true := beq_iff_eq.mpr c34
                            have c34b1 : (t123 != x17_26) = false := bne_eq_false_iff_eq.mpr c34
                            clear c34
                            replace H := Option.bind_eq_some_iff.mp H
                            obtain ⟨t124, A350, H⟩ := H
                            replace H : (some (t124 == ((x17_26 - a0) % 4294967296))) = some r := H
                            have A35 := Aside0.mk A350
                            clear A350
                            clear HRT
                            obtain rfl := Option.some.inj H
                            go_wp2_with (first | ((with_reducible refine gate_callee (f := 28) rfl ?_); refine goesL_ (some 132) rfl rfl Try.func28 (by kernel_rfl) rfl #[.int .u32 a1, .int .u32 0, .bool true] rfl (by (try simp only [List.map_toArray, List.map_cons, List.map_nil]); first | done | rfl | (simp only [List.length_drop, List.length_take]; rfl)) ?_; (with_reducible refine (word_Less.calls a1 0 true true _ A29.out).mono ?_); rintro e w' ⟨rfl, ⟨nd, rfl⟩⟩; refine ⟨_, rfl, ?_⟩) | (go_at_call 29; (with_reducible refine (word_High.calls a0 a1 false false t122 _ A31.out).mono ?_); rintro e w' ⟨rfl, ⟨nd, rfl⟩⟩) | (go_at_call 29; (with_reducible refine (word_High.calls a0 a1 true false t123 _ A33.out).mono ?_); rintro e w' ⟨rfl, ⟨nd, rfl⟩⟩) | (go_at_call 29; (with_reducible refine (word_High.calls a0 a1 true true t124 _ A35.out).mono ?_); rintro e w' ⟨rfl, ⟨nd, rfl⟩⟩))
                            go_ret
                            exact ⟨by first | rfl | (simp [errW_none, errW_some] <;> rfl) | (simp [*, errW_none, errW_some] <;> rfl), by repeat (first | (with_reducible first | exact HB.out | apply below_alloc | apply pw_below_drewN | apply below_drew1) | exact HB.out)⟩
                          · rw [if_neg c34] at H
                            have c34b0 : (t123 == x17_26) = false := beq_eq_false_iff_ne.mpr c34
                            have c34b1 : (t123 != x17_26) = true := bne_iff_ne.mpr c34
                            exact absurd (Option.some.inj H) (by rw [HRT.out]; decide)
                        · rw [if_neg c32] at H
                          have c32b0 : (t122 == (((((a0 / 65536) * (a1 / 65536)) + (((((a0 / 65536) * (Go.bits .and .u32 a1 65535)) + ((((Go.bits .and .u32 a0 65535) * (Go.bits .and .u32 a1 65535)) % 4294967296) / 65536)) % 4294967296) / 65536)) + ((((Go.bits .and .u32 ((((a0 / 65536) * (Go.bits .and .u32 a1 65535)) + ((((Go.bits .and .u32 a0 65535) * (Go.bits .and .u32 a1 65535)) % 4294967296) / 65536)) % 4294967296) 65535) + ((Go.bits .and .u32 a0 65535) * (a1 / 65536))) % 4294967296) / 65536)) % 4294967296)) = false := beq_eq_false_iff_ne.mpr c32
                          have c32b1 : (t122 != (((((a0 / 65536) * (a1 / 65536)) + (((((a0 / 65536) * (Go.bits .and .u32 a1 65535)) + ((((Go.bits .and .u32 a0 65535) * (Go.bits .and .u32 a1 65535)) % 4294967296) / 65536)) % 4294967296) / 65536)) + ((((Go.bits .and .u32 ((((a0 / 65536) * (Go.bits .and .u32 a1 65535)) + ((((Go.bits .and .u32 a0 65535) * (Go.bits .and .u32 a1 65535)) % 4294967296) / 65536)) % 4294967296) 65535) + ((Go.bits .and .u32 a0 65535) * (a1 / 65536))) % 4294967296) / 65536)) % 4294967296)) = true := bne_iff_ne.mpr c32
                          exact absurd (Option.some.inj H) (by rw [HRT.out]; decide)
                      · replace c30 := Bool.eq_false_iff.mpr c30
                        subst c30
                        have H1 : (if true = true then ((word_High.f a0 a1 false false).bind fun t125 => (if t125 = (((((a0 / 65536) * (a1 / 65536)) + (((((a0 / 65536) * (Go.bits .and .u32 a1 65535)) + ((((Go.bits .and .u32 a0 65535) * (Go.bits .and .u32 a1 65535)) % 4294967296) / 65536)) % 4294967296) / 65536)) + ((((Go.bits .and .u32 ((((a0 / 65536) * (Go.bits .and .u32 a1 65535)) + ((((Go.bits .and .u32 a0 65535) * (Go.bits .and .u32 a1 65535)) % 4294967296) / 65536)) % 4294967296) 65535) + ((Go.bits .and .u32 a0 65535) * (a1 / 65536))) % 4294967296) / 65536)) % 4294967296) then ((word_High.f a0 a1 true false).bind fun t126 => (if t126 = x17_26 then ((word_High.f a0 a1 true true).bind fun t127 => (some (t127 == x17_26))) else (some false))) else (some false))) else (some false)) = some r := by rw [if_neg (show ¬ (false = true) by decide)] at H; exact H
                        clear H
                        have H := H1
                        clear H1
                        replace H : ((word_High.f a0 a1 false false).bind fun t125 => (if t125 = (((((a0 / 65536) * (a1 / 65536)) + (((((a0 / 65536) * (Go.bits .and .u32 a1 65535)) + ((((Go.bits .and .u32 a0 65535) * (Go.bits .and .u32 a1 65535)) % 4294967296) / 65536)) % 4294967296) / 65536)) + ((((Go.bits .and .u32 ((((a0 / 65536) * (Go.bits .and .u32 a1 65535)) + ((((Go.bits .and .u32 a0 65535) * (Go.bits .and .u32 a1 65535)) % 4294967296) / 65536)) % 4294967296) 65535) + ((Go.bits .and .u32 a0 65535) * (a1 / 65536))) % 4294967296) / 65536)) % 4294967296) then ((word_High.f a0 a1 true false).bind fun t126 => (if t126 = x17_26 then ((word_High.f a0 a1 true true).bind fun t127 => (some (t127 == x17_26))) else (some false))) else (some false))) = some r := by first | (rw [if_pos rfl] at H; exact H) | (rw [if_pos trivial] at H; exact H)
                        replace H := Option.bind_eq_some_iff.mp H
                        obtain ⟨t125, A360, H⟩ := H
                        replace H : (if t125 = (((((a0 / 65536) * (a1 / 65536)) + (((((a0 / 65536) * (Go.bits .and .u32 a1 65535)) + ((((Go.bits .and .u32 a0 65535) * (Go.bits .and .u32 a1 65535)) % 4294967296) / 65536)) % 4294967296) / 65536)) + ((((Go.bits .and .u32 ((((a0 / 65536) * (Go.bits .and .u32 a1 65535)) + ((((Go.bits .and .u32 a0 65535) * (Go.bits .and .u32 a1 65535)) % 4294967296) / 65536)) % 4294967296) 65535) + ((Go.bits .and .u32 a0 65535) * (a1 / 65536))) % 4294967296) / 65536)) % 4294967296) then ((word_High.f a0 a1 true false).bind fun t126 => (if t126 = x17_26 then ((word_High.f a0 a1 true true).bind fun t127 => (some (t127 == x17_26))) else (some false))) else (some false)) = some r := H
                        have A36 := Aside0.mk A360
                        clear A360
                        by_cases c37 : t125 = (((((a0 / 65536) * (a1 / 65536)) + (((((a0 / 65536) * (Go.bits .and .u32 a1 65535)) + ((((Go.bits .and .u32 a0 65535) * (Go.bits .and .u32 a1 65535)) % 4294967296) / 65536)) % 4294967296) / 65536)) + ((((Go.bits .and .u32 ((((a0 / 65536) * (Go.bits .and .u32 a1 65535)) + ((((Go.bits .and .u32 a0 65535) * (Go.bits .and .u32 a1 65535)) % 4294967296) / 65536)) % 4294967296) 65535) + ((Go.bits .and .u32 a0 65535) * (a1 / 65536))) % 4294967296) / 65536)) % 4294967296)
                        · rw [if_pos c37] at H
                          have c37b0 : (t125 == (((((a0 / 65536) * (a1 / 65536)) + (((((a0 / 65536) * (Go.bits .and .u32 a1 65535)) + ((((Go.bits .and .u32 a0 65535) * (Go.bits .and .u32 a1 65535)) % 4294967296) / 65536)) % 4294967296) / 65536)) + ((((Go.bits .and .u32 ((((a0 / 65536) * (Go.bits .and .u32 a1 65535)) + ((((Go.bits .and .u32 a0 65535) * (Go.bits .and .u32 a1 65535)) % 4294967296) / 65536)) % 4294967296) 65535) + ((Go.bits .and .u32 a0 65535) * (a1 / 65536))) % 4294967296) / 65536)) % 4294967296)) = true := beq_iff_eq.mpr c37
                          have c37b1 : (t125 != (((((a0 / 65536) * (a1 / 65536)) + (((((a0 / 65536) * (Go.bits .and .u32 a1 65535)) + ((((Go.bits .and .u32 a0 65535) * (Go.bits .and .u32 a1 65535)) % 4294967296) / 65536)) % 4294967296) / 65536)) + ((((Go.bits .and .u32 ((((a0 / 65536) * (Go.bits .and .u32 a1 65535)) + ((((Go.bits .and .u32 a0 65535) * (Go.bits .and .u32 a1 65535)) % 4294967296) / 65536)) % 4294967296) 65535) + ((Go.bits .and .u32 a0 65535) * (a1 / 65536))) % 4294967296) / 65536)) % 4294967296)) = false := bne_eq_false_iff_eq.mpr c37
                          clear c37
                          replace H := Option.bind_eq_some_iff.mp H
                          obtain ⟨t126, A380, H⟩ := H
                          replace H : (if t126 = x17_26 then ((word_High.f a0 a1 true true).bind fun t127 => (some (t127 == x17_26))) else (some false)) = some r := H
                          have A38 := Aside0.mk A380
                          clear A380
                          by_cases c39 : t126 = x17_26
                          · rw [if_pos c39] at H
                            have c39b0 : (t126 == x17_26) = true := beq_iff_eq.mpr c39
                            have c39b1 : (t126 != x17_26) = false := bne_eq_false_iff_eq.mpr c39
                            clear c39
                            replace H := Option.bind_eq_some_iff.mp H
                            obtain ⟨t127, A400, H⟩ := H
                            replace H : (some (t127 == x17_26)) = some r := H
                            have A40 := Aside0.mk A400
                            clear A400
                            clear HRT
                            obtain rfl := Option.some.inj H
                            go_wp2_with (first | ((with_reducible refine gate_callee (f := 28) rfl ?_); refine goesL_ (some 132) rfl rfl Try.func28 (by kernel_rfl) rfl #[.int .u32 a1, .int .u32 0, .bool true] rfl (by (try simp only [List.map_toArray, List.map_cons, List.map_nil]); first | done | rfl | (simp only [List.length_drop, List.length_take]; rfl)) ?_; (with_reducible refine (word_Less.calls a1 0 true false _ A29.out).mono ?_); rintro e w' ⟨rfl, ⟨nd, rfl⟩⟩; refine ⟨_, rfl, ?_⟩) | (go_at_call 29; (with_reducible refine (word_High.calls a0 a1 false false t125 _ A36.out).mono ?_); rintro e w' ⟨rfl, ⟨nd, rfl⟩⟩) | (go_at_call 29; (with_reducible refine (word_High.calls a0 a1 true false t126 _ A38.out).mono ?_); rintro e w' ⟨rfl, ⟨nd, rfl⟩⟩) | (go_at_call 29; (with_reducible refine (word_High.calls a0 a1 true true t127 _ A40.out).mono ?_); rintro e w' ⟨rfl, ⟨nd, rfl⟩⟩))
                            go_ret
                            exact ⟨by first | rfl | (simp [errW_none, errW_some] <;> rfl) | (simp [*, errW_none, errW_some] <;> rfl), by repeat (first | (with_reducible first | exact HB.out | apply below_alloc | apply pw_below_drewN | apply below_drew1) | exact HB.out)⟩
                          · rw [if_neg c39] at H
                            have c39b0 : (t126 == x17_26) = false := beq_eq_false_iff_ne.mpr c39
                            have c39b1 : (t126 != x17_26) = true := bne_iff_ne.mpr c39
                            exact absurd (Option.some.inj H) (by rw [HRT.out]; decide)
                        · rw [if_neg c37] at H
                          have c37b0 : (t125 == (((((a0 / 65536) * (a1 / 65536)) + (((((a0 / 65536) * (Go.bits .and .u32 a1 65535)) + ((((Go.bits .and .u32 a0 65535) * (Go.bits .and .u32 a1 65535)) % 4294967296) / 65536)) % 4294967296) / 65536)) + ((((Go.bits .and .u32 ((((a0 / 65536) * (Go.bits .and .u32 a1 65535)) + ((((Go.bits .and .u32 a0 65535) * (Go.bits .and .u32 a1 65535)) % 4294967296) / 65536)) % 4294967296) 65535) + ((Go.bits .and .u32 a0 65535) * (a1 / 65536))) % 4294967296) / 65536)) % 4294967296)) = false := beq_eq_false_iff_ne.mpr c37
                          have c37b1 : (t125 != (((((a0 / 65536) * (a1 / 65536)) + (((((a0 / 65536) * (Go.bits .and .u32 a1 65535)) + ((((Go.bits .and .u32 a0 65535) * (Go.bits .and .u32 a1 65535)) % 4294967296) / 65536)) % 4294967296) / 65536)) + ((((Go.bits .and .u32 ((((a0 / 65536) * (Go.bits .and .u32 a1 65535)) + ((((Go.bits .and .u32 a0 65535) * (Go.bits .and .u32 a1 65535)) % 4294967296) / 65536)) % 4294967296) 65535) + ((Go.bits .and .u32 a0 65535) * (a1 / 65536))) % 4294967296) / 65536)) % 4294967296)) = true := bne_iff_ne.mpr c37
                          exact absurd (Option.some.inj H) (by rw [HRT.out]; decide)
  · replace c4 := Bool.eq_false_iff.mpr c4
    subst c4
    have H1 : (some false) = some r := by rw [if_neg (show ¬ (false = true) by decide)] at H; exact H
    clear H
    have H := H1
    clear H1
    exact absurd (Option.some.inj H) (by rw [HRT.out]; decide)

/-- THE ONE PURE STATEMENT of corrallaw1_WordDivides: yours. -/
def corrallaw1_WordDivides.Pure : Prop := ∀ (a0 : Int) (a1 : Int), (Lit.int .u32 a0).wf = true → (Lit.int .u32 a1).wf = true → ∃ k, corrallaw1_WordDivides.f k a0 a1 = some true
theorem corrallaw1_WordDivides.walk (P : corrallaw1_WordDivides.Pure) (a0 : Int) (a1 : Int) (w : World) (w0 : (Lit.int .u32 a0).wf = true) (w1 : (Lit.int .u32 a1).wf = true) :
    Calls Try.prog 8 #[.int .u32 a0, .int .u32 a1] w fun e w' => e = .returned (.bool true) ∧ Below w.heap.size w w' := by
  obtain ⟨k, h⟩ := P a0 a1 w0 w1
  refine (corrallaw1_WordDivides.calls k a0 a1 true w h rfl).mono ?_
  rintro e w' ⟨rfl, hd⟩
  exact ⟨rfl, hd⟩

end Go.Proofs.Ythpaieglgjjbiaa.QWordDivides
