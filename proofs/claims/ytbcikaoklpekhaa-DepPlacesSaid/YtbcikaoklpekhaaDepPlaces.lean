/- DepPlaces: true for every row of numbers. -/
import Derived.Test.YtbcikaoklpekhaaDepPlacesRuns
namespace Go.Proofs.Ytbcikaoklpekhaa.Ab
open Go Go.RowKit
set_option linter.unusedVariables false
set_option linter.unusedSimpArgs false
set_option maxRecDepth 100000
/-! ### A word whose lowest seven bits are none is no instruction -/
theorem fl127 (w : Int) (h0 : 0 ≤ w) (h1 : w < 4294967296) (h2 : w % 128 = 0) : fl w 1 127 = 0 := by
  have e1 : w.fdiv 1 = w := by rw [Int.fdiv_eq_ediv_of_nonneg _ (by decide)]; omega
  have h : fl w 1 127 = ((BitVec.ofInt 32 w &&& BitVec.ofInt 32 127).toNat : Int) := by
    show IntKind.u32.wrap _ = _
    rw [IntKind.wrap_u32, e1]
    have := (BitVec.ofInt 32 w &&& BitVec.ofInt 32 127).isLt
    show ((BitVec.ofInt 32 w &&& BitVec.ofInt 32 127).toNat : Int) % 4294967296 = _
    omega
  rw [h, BitVec.toNat_and, show (BitVec.ofInt 32 127).toNat = 2 ^ 7 - 1 by decide, Nat.and_two_pow_sub_one_eq_mod, BitVec.toNat_ofInt]
  have : (w % ((2 ^ 32 : Nat) : Int)) = w := by omega
  rw [this]
  omega
theorem fits_opc {form opc f3 f7 w : Int} (h : fitsB form opc f3 f7 w = true) : fl w 1 127 = opc ∨ w = opc := by
  unfold fitsB at h
  split at h <;> simp only [Bool.and_eq_true, beq_iff_eq] at h <;> first | exact .inr h | exact .inl h | exact .inl h.1
theorem table_opc : ∀ r ∈ table, r.opc % 128 ≠ 0 := by decide
theorem decL_none : ∀ (l : List Row) (w : Int), (∀ r ∈ l, r.opc % 128 ≠ 0) → fl w 1 127 = 0 → w % 128 = 0 → (decL l w).2 = false
  | [], w, _, _, _ => rfl
  | r :: l, w, hl, h1, h2 => by
    unfold decL
    cases hb : fitsB r.form r.opc r.f3 r.f7 w with
    | true =>
      have := hl r (List.mem_cons_self ..)
      rcases fits_opc hb with h | h
      · rw [← h, h1] at this; exact absurd rfl this
      · rw [← h, h2] at this; exact absurd rfl this
    | false => rw [cond_false]; exact decL_none l w (fun x hx => hl x (List.mem_cons_of_mem _ hx)) h1 h2
def lowW (x : Int) : Int := IntKind.u32.wrap (IntKind.u32.wrap x * 128)
theorem dec_low (x : Int) : (dec (lowW x)).2 = false := by
  have e : lowW x = (x % 4294967296 * 128) % 4294967296 := by unfold lowW; rw [IntKind.wrap_u32, IntKind.wrap_u32]
  have h0 : 0 ≤ lowW x ∧ lowW x < 4294967296 ∧ lowW x % 128 = 0 := by rw [e]; omega
  exact decL_none table _ table_opc (fl127 _ h0.1 h0.2.1 h0.2.2) h0.2.2
/-! ### The items -/
def plW (op a b c i : Int) : Int := if op = 13 then 73859 else if op = 16 then 1114147 else if op = 38 then 53477391 else if op = 60 then 405872815 else if op = 61 then 137437359 else 3211443
/-- An item, and whether it has an operation. -/
def plX (d x : Int) : Item × Bool :=
  bif d == 0 then (plI 73859 false false, true) else bif d == 1 then (plI 1114147 false false, true) else bif d == 2 then (plI 53477391 false false, true) else
  bif d == 3 then (bif bits .and .i64 x 8 == 0 then (plI 405872815 true false, true) else (plI 405872815 false false, false)) else
  bif d == 4 then (plI 137437359 false false, true) else bif d == 5 then (plI 73859 false true, false) else bif d == 6 then (plI 3211443 false false, false) else (plI (lowW x) false false, false)
def plY (x : Int) : Item × Bool := plX (numF x 8) x
theorem plG_of {op a b c i w : Int} (h : PureOK Try.prog 13 [.int .i64 op, .int .i64 a, .int .i64 b, .int .i64 c, .int .u32 i] (.int .u32 w)) (e : plW op a b c i = w) : lwG plW op a b c i = true :=
  isPure_of (by rw [e]; exact h) (plains_gh rfl)
theorem plT_eq {ks : List Int} {K : Nat} (hK : K < ks.length) (d x : Int) (lf : Int → Bool → Bool → Bool → Res) : ∃ w dn tr, (plX d x).1 = plI w dn tr ∧ plT plW (lwG plW) ks K d x lf = lf w dn tr (plX d x).2 := by
  have g0 : lwG plW 13 1 2 0 0 = true := plG_of w_Lw_1_2_0_0 (by decide)
  have g1 : lwG plW 16 0 2 1 0 = true := plG_of w_Sb_0_2_1_0 (by decide)
  have g2 : lwG plW 38 0 0 0 51 = true := plG_of w_Fence_0_0_0_51 (by decide)
  have g3 : lwG plW 60 1 2 3 0 = true := plG_of w_Sc_1_2_3_0 (by decide)
  have g4 : lwG plW 61 1 2 3 0 = true := plG_of w_Swap_1_2_3_0 (by decide)
  have g5 : lwG plW 28 1 2 3 0 = true := plG_of w_Add_1_2_3_0 (by decide)
  have w0 : plW 13 1 2 0 0 = 73859 := by decide
  have w1 : plW 16 0 2 1 0 = 1114147 := by decide
  have w2 : plW 38 0 0 0 51 = 53477391 := by decide
  have w3 : plW 60 1 2 3 0 = 405872815 := by decide
  have w4 : plW 61 1 2 3 0 = 137437359 := by decide
  have w5 : plW 28 1 2 3 0 = 3211443 := by decide
  unfold plT plX
  rw [g0, g1, g2, g3, g4, g5, w0, w1, w2, w3, w4, w5, ldG_eq hK, ldG_eq hK]
  cases d == 0 with
  | true => exact ⟨_, _, _, rfl, rfl⟩
  | false =>
  cases d == 1 with
  | true => exact ⟨_, _, _, rfl, rfl⟩
  | false =>
  cases d == 2 with
  | true => exact ⟨_, _, _, rfl, rfl⟩
  | false =>
  cases d == 3 with
  | true =>
    cases bits .and .i64 x 8 == 0 with
    | true => exact ⟨_, _, _, rfl, rfl⟩
    | false => exact ⟨_, _, _, rfl, rfl⟩
  | false =>
  cases d == 4 with
  | true => exact ⟨_, _, _, rfl, rfl⟩
  | false =>
  cases d == 5 with
  | true => exact ⟨_, _, _, rfl, rfl⟩
  | false =>
  cases d == 6 with
  | true => exact ⟨_, _, _, rfl, rfl⟩
  | false => exact ⟨_, _, _, rfl, rfl⟩
/-! ### What they make -/
theorem step_has {s : St} {x : Item} {i : Inst} {h : Bool} (hd : dec x.word = (i, true)) (ht : x.trap = false) (ho : (opOf i x).2 = h) : (itemF s x).ats = s.ats ++ [plN (Int.ofNat s.ops.length) h] ∧ (itemF s x).ops.length = s.ops.length + (bif h then 1 else 0) := by
  rw [itemF_inst hd ht]
  show (takeOp s i (opOf i x)).ats = _ ∧ (takeOp s i (opOf i x)).ops.length = _
  unfold takeOp
  rw [ho]
  cases h with
  | true => exact ⟨rfl, by simp⟩
  | false => exact ⟨rfl, rfl⟩
theorem step_not {s : St} {x : Item} (h : x.trap = true ∨ (dec x.word).2 = false) : (itemF s x).ats = s.ats ++ [plN (Int.ofNat s.ops.length) false] ∧ (itemF s x).ops.length = s.ops.length + (bif false then 1 else 0) := by
  rw [itemF_none h]; exact ⟨rfl, rfl⟩
theorem step_pl (s : St) (d x : Int) : (itemF s (plX d x).1).ats = s.ats ++ [plN (Int.ofNat s.ops.length) (plX d x).2] ∧ (itemF s (plX d x).1).ops.length = s.ops.length + (bif (plX d x).2 then 1 else 0) := by
  unfold plX
  cases d == 0 with
  | true => exact step_has (x := plI 73859 false false) d_Lw_1_2_0_0 rfl rfl
  | false =>
  cases d == 1 with
  | true => exact step_has (x := plI 1114147 false false) d_Sb_0_2_1_0 rfl rfl
  | false =>
  cases d == 2 with
  | true => exact step_has (x := plI 53477391 false false) d_Fence_0_0_0_51 rfl rfl
  | false =>
  cases d == 3 with
  | true =>
    cases bits .and .i64 x 8 == 0 with
    | true => exact step_has (x := plI 405872815 true false) d_Sc_1_2_3_0 rfl rfl
    | false => exact step_has (x := plI 405872815 false false) d_Sc_1_2_3_0 rfl rfl
  | false =>
  cases d == 4 with
  | true => exact step_has (x := plI 137437359 false false) d_Swap_1_2_3_0 rfl rfl
  | false =>
  cases d == 5 with
  | true => exact step_not (x := plI 73859 false true) (.inl rfl)
  | false =>
  cases d == 6 with
  | true => exact step_has (x := plI 3211443 false false) d_Add_1_2_3_0 rfl rfl
  | false => exact step_not (x := plI (lowW x) false false) (.inr (dec_low x))
def plL (l : List Int) : List Item := l.map fun x => (plY x).1
/-- The places that are wanted, and how many operations there are. -/
def plS (l : List Int) : List Int × Nat := l.foldl (fun s x => (s.1 ++ [plN (Int.ofNat s.2) (plY x).2], s.2 + (bif (plY x).2 then 1 else 0))) ([], 0)
theorem plS_snoc (l : List Int) (x : Int) : plS (l ++ [x]) = ((plS l).1 ++ [plN (Int.ofNat (plS l).2) (plY x).2], (plS l).2 + (bif (plY x).2 then 1 else 0)) := by simp [plS]
theorem pl_law : ∀ (l : List Int) (s : St) (w : List Int), s.ats = w → ((l.map fun x => (plY x).1).foldl itemF s).ats = (l.foldl (fun s x => (s.1 ++ [plN (Int.ofNat s.2) (plY x).2], s.2 + (bif (plY x).2 then 1 else 0))) (w, s.ops.length)).1 ∧
    ((l.map fun x => (plY x).1).foldl itemF s).ops.length = (l.foldl (fun s x => (s.1 ++ [plN (Int.ofNat s.2) (plY x).2], s.2 + (bif (plY x).2 then 1 else 0))) (w, s.ops.length)).2
  | [], s, w, h => ⟨h, rfl⟩
  | x :: l, s, w, h => by
    obtain ⟨h1, h2⟩ := step_pl s (numF x 8) x
    have ih := pl_law l (itemF s (plY x).1) (w ++ [plN (Int.ofNat s.ops.length) (plY x).2]) (by rw [← h]; exact h1)
    have h2' : (itemF s (plY x).1).ops.length = s.ops.length + (bif (plY x).2 then 1 else 0) := h2
    rw [h2'] at ih
    simpa using ih
theorem pl_run (l : List Int) : (runF (plL l)).ats = (plS l).1 ∧ (runF (plL l)).ops.length = (plS l).2 := pl_law l St.nil [] rfl
theorem plS_len (l : List Int) : (plS l).1.length = l.length ∧ (plS l).2 ≤ l.length := by
  obtain ⟨h1, h2⟩ := pl_run l
  obtain ⟨h3, h4⟩ := inv_run (plL l)
  rw [← h1, ← h2, h4]
  have := h3.ops
  rw [h4] at this
  exact ⟨by simp [plL], by simpa [plL] using this⟩
/-! ### Put together -/
def nilV2 : List Value → Nat → Value := fun _ _ => nilV
theorem OKx : CtxOK Try.prog (ctx (lxΦ numF plW (lwG plW) lwG8 (lwG9 9 nilV2) nilV2 (lwG9 15 nilV2) nilV2 lxG sameV)) := lxΦ_ok plW nilV2 nilV2
def plH (ks : List Int) (k : Nat) : Heap := match k with
  | 0 => []
  | k + 1 => [some ⟨itemsC (plL (ks.take (k + 1))), 37, none⟩, some ⟨(plS (ks.take (k + 1))).1.map (Value.int .i64), 3, none⟩]
def plFk (ks : List Int) (k : Nat) : Fr := plF ks (sliV 0 k 6) (sliV 1 k 1) (Int.ofNat (plS (ks.take k)).2) (Int.ofNat k)
theorem take_snoc {ks : List Int} {k : Nat} (hk : k < ks.length) : ks.take (k + 1) = ks.take k ++ [ks.getD k 0] := by
  rw [List.take_add_one, List.getD_eq_getElem?_getD, List.getElem?_eq_getElem hk]; rfl
theorem g8_8 (x : Int) : lwG8 x 8 = true := rfl
theorem pl_hd (ks : List Int) (hl : ks.length ≤ 40) : GoOK Try.prog 0 0 103 (plP 0 10) (enterF 0 [L1 ks]) [] .normal (plFk ks 0) (plH ks 0) := by
  have h := pl_head numF plW (lwG plW) lwG8 (lwG9 9 nilV2) nilV2 (lwG9 15 nilV2) nilV2 lxG sameV ks
  rw [decide_eq_false (by simp; omega), cond_false] at h
  exact RowOK.go (RowOK.of_seeA OKx (m := 20) (j := 20) (f := 6) (p := keeps 6) (ts := [0, 3, 4, 5, 6, 7]) rfl (pl_dr1 _ _ _ _ _ _ _ _ _ _) h)
theorem plM_eq {n : Nat} (h : n ≤ 1000) (b : Bool) : plM (Int.ofNat n) b = Int.ofNat (n + (bif b then 1 else 0)) := by
  cases b with
  | true => exact w64_of (by simp; omega) (by simp; omega)
  | false => rfl
theorem plF_gh {ks : List Int} {k a b : Nat} {n i : Int} : ∀ e ∈ plF ks (sl 0 (k + 1) 6) (sl 1 (k + 1) 1) n i,
    ((plF ks (sl a (k + 1) 6) (sl b (k + 1) 1) n i).get e.1 = some e.2 ∧ Gh e.2) ∨ ∃ j s m z, 0 < z ∧ [a, b][j]? = some s ∧ (plF ks (sl a (k + 1) 6) (sl b (k + 1) 1) n i).get e.1 = some (.slice (some ⟨s, 0, none⟩) m z) ∧ e.2 = .slice (some ⟨j, 0, none⟩) m z := fun e he => by
  simp only [plF, List.mem_cons, List.not_mem_nil, or_false] at he
  rcases he with rfl | rfl | rfl | rfl | rfl | rfl
  · exact .inl ⟨rfl, Gh.L1 _⟩
  · exact .inl ⟨rfl, Gh.plain rfl⟩
  · exact .inr ⟨0, a, _, 6, by omega, rfl, rfl, rfl⟩
  · exact .inr ⟨1, b, _, 1, by omega, rfl, rfl, rfl⟩
  · exact .inl ⟨rfl, gh_int _ _⟩
  · exact .inl ⟨rfl, gh_int _ _⟩
theorem pl_pick {ks : List Int} {l : List Code} {F : Fr} {H H1 : Heap} {k a b : Nat} {n i : Int} {xs ws : List Value} (h : GoOK Try.prog 0 0 103 l F H .normal (plF ks (sl a (k + 1) 6) (sl b (k + 1) 1) n i) H1) (hab : a ≠ b)
    (ha : H1[a]? = some (some ⟨xs, 37, none⟩)) (hb : H1[b]? = some (some ⟨ws, 3, none⟩)) (hx : ∀ v ∈ xs, Gh v) (hw : ∀ v ∈ ws, Gh v) : GoOK Try.prog 0 0 103 l F H .normal (plF ks (sl 0 (k + 1) 6) (sl 1 (k + 1) 1) n i) [some ⟨xs, 37, none⟩, some ⟨ws, 3, none⟩] := by
  refine h.pick [a, b] (fun s hs => ?_) rfl rfl (fun i j s c c' h1 h2 _ _ => ?_) (fun i c e => ?_) plF_gh
  · simp only [List.mem_cons, List.not_mem_nil, or_false] at hs
    rcases hs with rfl | rfl
    · exact (List.getElem?_eq_some_iff.1 ha).1
    · exact (List.getElem?_eq_some_iff.1 hb).1
  · match i, j with
    | 0, 0 => rfl
    | 1, 1 => rfl
    | 0, 1 => simp at h1 h2; omega
    | 1, 0 => simp at h1 h2; omega
    | i + 2, _ => simp at h1
    | _, j + 2 => simp at h2
  · match i with
    | 0 => simp at e; subst e; exact ⟨rfl, hx, a, rfl, ha⟩
    | 1 => simp at e; subst e; exact ⟨rfl, hw, b, rfl, hb⟩
    | i + 2 => simp at e
theorem pl_round (ks : List Int) (hl : ks.length ≤ 40) (k : Nat) (hk : k < ks.length) : GcOK Try.prog 0 0 103 plB (plFk ks k) (plH ks k) .normal (plFk ks (k + 1)) (plH ks (k + 1)) := by
  have hd : decide (Int.ofNat k < Int.ofNat ks.length) = true := decide_eq_true (by simp; omega)
  have hx : toInt (ldI ks k) = ks.getD k 0 := by rw [ldI_eq hk]; rfl
  have ew : w64 (Int.ofNat k + 1) = Int.ofNat (k + 1) := w64_of (by simp; omega) (by simp; omega)
  have hn : (plS (ks.take k)).2 ≤ 1000 := by have := (plS_len (ks.take k)).2; simp at this; omega
  have eL : itemsC (plL (ks.take (k + 1))) = itemsC (plL (ks.take k)) ++ itemC (plX (numF (ks.getD k 0) 8) (ks.getD k 0)).1 := by
    rw [take_snoc hk]; simp only [plL, List.map_append, List.map_cons, List.map_nil]; simp only [itemsC, List.flatMap_append, List.flatMap_cons, List.flatMap_nil, List.append_nil, plY]
  have eS : plS (ks.take (k + 1)) = ((plS (ks.take k)).1 ++ [plN (Int.ofNat (plS (ks.take k)).2) (plX (numF (ks.getD k 0) 8) (ks.getD k 0)).2], (plS (ks.take k)).2 + (bif (plX (numF (ks.getD k 0) 8) (ks.getD k 0)).2 then 1 else 0)) := by
    rw [take_snoc hk, plS_snoc]; rfl
  cases k with
  | zero =>
    have h := pl_rnd0 numF plW (lwG plW) lwG8 (lwG9 9 nilV2) nilV2 (lwG9 15 nilV2) nilV2 lxG sameV ks 0 0
    rw [hd, ldG_eq hk, hx, g8_8, cond_true, cond_true] at h
    obtain ⟨w, dn, tr, e1, e2⟩ := plT_eq (ks := ks) hk (numF (ks.getD 0 0) 8) (ks.getD 0 0) (fun w dn tr has => some (.normal, (plF ks (sl 2 1 6) (sl 4 1 1) (plM 0 has) (w64 (Int.ofNat 0 + 1))).map (fun e => some e.2), [some ⟨itemC (plI w dn tr), 37, none⟩, some ⟨itemC (plI w dn tr), 37, none⟩, some ⟨itemC (plI w dn tr), 37, none⟩, some ⟨[.int .i64 (plN 0 has)], 3, none⟩, some ⟨[.int .i64 (plN 0 has)], 3, none⟩]))
    rw [e2, ← e1, ew] at h
    have r := RowOK.go (base := 0) (RowOK.of_seeA OKx (m := 20) (j := 20) (f := 6) (p := keeps 6) (ts := [0, 3, 4, 5, 6, 7]) rfl (pl_dr2 _ _ _ _ _ _ _ _ _ _) h)
    have p := pl_pick (k := 0) r (by omega) rfl rfl (itemC_gh _) (fun v hv => by simp at hv; subst hv; exact gh_int _ _)
    have q : GcOK Try.prog 0 0 103 plB (plFk ks 0) (plH ks 0) .normal (plF ks (sl 0 1 6) (sl 1 1 1) (plM 0 (plX (numF (ks.getD 0 0) 8) (ks.getD 0 0)).2) (Int.ofNat (0 + 1))) [some ⟨itemC (plX (numF (ks.getD 0 0) 8) (ks.getD 0 0)).1, 37, none⟩, some ⟨[.int .i64 (plN 0 (plX (numF (ks.getD 0 0) 8) (ks.getD 0 0)).2)], 3, none⟩] := GoOK.code p
    have c1 : plFk ks (0 + 1) = plF ks (sl 0 1 6) (sl 1 1 1) (plM 0 (plX (numF (ks.getD 0 0) 8) (ks.getD 0 0)).2) (Int.ofNat (0 + 1)) := by
      unfold plFk
      rw [eS, show plM 0 (plX (numF (ks.getD 0 0) 8) (ks.getD 0 0)).2 = Int.ofNat (0 + (bif (plX (numF (ks.getD 0 0) 8) (ks.getD 0 0)).2 then 1 else 0)) from plM_eq (n := 0) (by omega) _]; rfl
    have c2 : plH ks (0 + 1) = [some ⟨itemC (plX (numF (ks.getD 0 0) 8) (ks.getD 0 0)).1, 37, none⟩, some ⟨[.int .i64 (plN 0 (plX (numF (ks.getD 0 0) 8) (ks.getD 0 0)).2)], 3, none⟩] := by
      show [some (Blk.mk (itemsC (plL (ks.take (0 + 1)))) 37 none), some (Blk.mk ((plS (ks.take (0 + 1))).1.map (Value.int .i64)) 3 none)] = _
      rw [eL, eS]; rfl
    rw [c1, c2]; exact q
  | succ k =>
    have h := pl_rnd1 numF plW (lwG plW) lwG8 (lwG9 9 nilV2) nilV2 (lwG9 15 nilV2) nilV2 lxG sameV ks (Int.ofNat (plS (ks.take (k + 1))).2) (k + 1) k (itemsC (plL (ks.take (k + 1)))) ((plS (ks.take (k + 1))).1.map (Value.int .i64))
    have g1 : moreG (itemsC (plL (ks.take (k + 1)))).length (k + 1) 6 20 = true := moreG_eq (by rw [itemsC, flat_len itemC_len]; simp [plL]; omega) (by omega) (by omega)
    have g2 : moreG ((plS (ks.take (k + 1))).1.map (Value.int .i64)).length (k + 1) 1 8 = true := moreG_eq (by rw [List.length_map, (plS_len _).1]; simp; omega) (by omega) (by omega)
    rw [hd, ldG_eq hk, hx, g8_8, cond_true, cond_true, g1, g2] at h
    simp only [cond_true] at h
    obtain ⟨w, dn, tr, e1, e2⟩ := plT_eq (ks := ks) hk (numF (ks.getD (k + 1) 0) 8) (ks.getD (k + 1) 0) (fun w dn tr has => some (.normal, (plF ks (sl 4 (k + 1 + 1) 6) (sl 6 (k + 1 + 1) 1) (plM (Int.ofNat (plS (ks.take (k + 1))).2) has) (w64 (Int.ofNat (k + 1) + 1))).map (fun e => some e.2), [none, none, some ⟨itemC (plI w dn tr), 37, none⟩, some ⟨itemC (plI w dn tr), 37, none⟩, some ⟨itemsC (plL (ks.take (k + 1))) ++ itemC (plI w dn tr), 37, none⟩, some ⟨[.int .i64 (plN (Int.ofNat (plS (ks.take (k + 1))).2) has)], 3, none⟩, some ⟨(plS (ks.take (k + 1))).1.map (Value.int .i64) ++ [.int .i64 (plN (Int.ofNat (plS (ks.take (k + 1))).2) has)], 3, none⟩]))
    rw [e2, ← e1, ew] at h
    have r := RowOK.go (base := 0) (RowOK.of_seeA OKx (m := 20) (j := 20) (f := 6) (p := keeps 6) (ts := [0, 3, 4, 5, 6, 7]) rfl (pl_dr2 _ _ _ _ _ _ _ _ _ _) h)
    have p := pl_pick (k := k + 1) r (by omega) rfl rfl (fun v hv => by
      rcases List.mem_append.1 hv with hh | hh
      · exact itemsC_gh _ v hh
      · exact itemC_gh _ v hh) (fun v hv => by
      rcases List.mem_append.1 hv with hh | hh
      · exact ints_gh _ v hh
      · simp at hh; subst hh; exact gh_int _ _)
    have q := GoOK.code p
    have c1 : plFk ks (k + 1 + 1) = plF ks (sl 0 (k + 1 + 1) 6) (sl 1 (k + 1 + 1) 1) (plM (Int.ofNat (plS (ks.take (k + 1))).2) (plX (numF (ks.getD (k + 1) 0) 8) (ks.getD (k + 1) 0)).2) (Int.ofNat (k + 1 + 1)) := by
      unfold plFk
      rw [eS, plM_eq hn]; rfl
    have c2 : plH ks (k + 1 + 1) = [some ⟨itemsC (plL (ks.take (k + 1))) ++ itemC (plX (numF (ks.getD (k + 1) 0) 8) (ks.getD (k + 1) 0)).1, 37, none⟩, some ⟨(plS (ks.take (k + 1))).1.map (Value.int .i64) ++ [.int .i64 (plN (Int.ofNat (plS (ks.take (k + 1))).2) (plX (numF (ks.getD (k + 1) 0) 8) (ks.getD (k + 1) 0)).2)], 3, none⟩] := by
      show [some (Blk.mk (itemsC (plL (ks.take (k + 1 + 1)))) 37 none), some (Blk.mk ((plS (ks.take (k + 1 + 1))).1.map (Value.int .i64)) 3 none)] = _
      rw [eL, eS, List.map_append]; rfl
    rw [c1, c2]; exact q
theorem pl_hend (ks : List Int) : GcOK Try.prog 0 0 103 plB (plFk ks ks.length) (plH ks ks.length) (.exit 0) (plFk ks ks.length) (plH ks ks.length) := by
  have hd : decide (Int.ofNat ks.length < Int.ofNat ks.length) = false := decide_eq_false (by simp)
  cases hl : ks.length with
  | zero =>
    have h := pl_rnd0 numF plW (lwG plW) lwG8 (lwG9 9 nilV2) nilV2 (lwG9 15 nilV2) nilV2 lxG sameV ks (Int.ofNat (plS (ks.take 0)).2) 0
    rw [hl] at h hd
    rw [hd, cond_false] at h
    exact GoOK.code (RowOK.go (RowOK.of_seeA OKx (m := 20) (j := 20) (f := 6) (p := keeps 6) (ts := [0, 3, 4, 5, 6, 7]) rfl (pl_dr2 _ _ _ _ _ _ _ _ _ _) h))
  | succ k =>
    have h := pl_rnd1 numF plW (lwG plW) lwG8 (lwG9 9 nilV2) nilV2 (lwG9 15 nilV2) nilV2 lxG sameV ks (Int.ofNat (plS (ks.take (k + 1))).2) (k + 1) k (itemsC (plL (ks.take (k + 1)))) ((plS (ks.take (k + 1))).1.map (Value.int .i64))
    rw [hl] at h hd
    rw [hd, cond_false] at h
    exact GoOK.code (RowOK.go (RowOK.of_seeA OKx (m := 20) (j := 20) (f := 6) (p := keeps 6) (ts := [0, 3, 4, 5, 6, 7]) rfl (pl_dr2 _ _ _ _ _ _ _ _ _ _) h))
theorem pl_loop (ks : List Int) (hl : ks.length ≤ 40) : GoOK Try.prog 0 0 103 [.block 0 (.loop plB)] (plFk ks 0) (plH ks 0) .normal (plE (gs 6 (itemsC (plL ks)) ks.length) (L1 (plS ks).1) (Int.ofNat (plS ks).2)) [] := by
  have lp := (GcOK.block (id := 0) (GcOK.loop (P := Try.prog) (lo := 0) (base := 0) (n := 103) (c := plB) (plFk ks) (plH ks) ks.length (e := .exit 0) (by intro h; cases h) (pl_round ks hl) (pl_hend ks))).row
  refine GoOK.freeze lp (fun e he => ?_)
  have ht : ks.take ks.length = ks := List.take_length
  simp only [plE, List.mem_cons, List.not_mem_nil, or_false] at he
  rcases he with rfl | rfl | rfl | rfl
  · exact ⟨_, rfl, .inl ⟨rfl, Gh.plain rfl⟩⟩
  · refine ⟨sliV 0 ks.length 6, rfl, ?_⟩
    cases hk : ks.length with
    | zero =>
      have : ks = [] := List.eq_nil_of_length_eq_zero hk
      subst this
      exact .inr (.inr ⟨6, rfl, rfl⟩)
    | succ k =>
      have lcl : (itemsC (plL ks)).length = (k + 1) * 6 := by rw [itemsC, flat_len itemC_len]; simp [plL, hk]
      refine .inr (.inl ⟨0, k + 1, 6, itemsC (plL ks), 37, by omega, rfl, ?_, by rw [lcl]; exact Nat.le_refl _, itemsC_gh _, ?_⟩)
      · show some (some (Blk.mk (itemsC (plL (ks.take (k + 1)))) 37 none)) = _
        rw [← hk, ht]
      · rw [List.take_of_length_le (by rw [lcl]; exact Nat.le_refl _)]
  · refine ⟨sliV 1 ks.length 1, rfl, ?_⟩
    cases hk : ks.length with
    | zero =>
      have : ks = [] := List.eq_nil_of_length_eq_zero hk
      subst this
      exact .inr (.inr ⟨1, rfl, rfl⟩)
    | succ k =>
      have lcl : ((plS ks).1.map (Value.int .i64)).length = (k + 1) * 1 := by rw [List.length_map, (plS_len ks).1, hk]; omega
      refine .inr (.inl ⟨1, k + 1, 1, (plS ks).1.map (Value.int .i64), 3, by omega, rfl, ?_, by rw [lcl]; exact Nat.le_refl _, ints_gh _, ?_⟩)
      · show some (some (Blk.mk ((plS (ks.take (k + 1))).1.map (Value.int .i64)) 3 none)) = _
        rw [← hk, ht]
      · rw [List.take_of_length_le (by rw [lcl]; exact Nat.le_refl _)]
        unfold L1; rw [(plS_len ks).1, hk]
  · exact ⟨_, by rw [show plFk ks ks.length = plF ks (sliV 0 ks.length 6) (sliV 1 ks.length 1) (Int.ofNat (plS (ks.take ks.length)).2) (Int.ofNat ks.length) from rfl, ht]; rfl, .inl ⟨rfl, gh_int _ _⟩⟩
theorem pl_fin (ks : List Int) (hl : ks.length ≤ 40) : GoOK Try.prog 0 0 103 (plP 11 2) (plE (gs 6 (itemsC (plL ks)) ks.length) (L1 (plS ks).1) (Int.ofNat (plS ks).2)) [] .ret [(2, .bool true)] [] := by
  obtain ⟨h1, h2⟩ := pl_run ks
  have ll : (plL ks).length = ks.length := by simp [plL]
  have o9 := opsOK (plL ks) (by omega)
  have o15 := placesOK (plL ks) (by omega)
  rw [h1, ll] at o15
  rw [ll] at o9
  have OK1 := lxΦ_ok plW (fun _ _ => gs 13 (opsC (runF (plL ks)).ops) (runF (plL ks)).ops.length) (fun _ _ => L1 (plS ks).1)
  have run := pl_end numF plW (lwG plW) lwG8 (lwG9 9 (fun _ _ => gs 13 (opsC (runF (plL ks)).ops) (runF (plL ks)).ops.length)) nilV2 (lwG9 15 (fun _ _ => L1 (plS ks).1)) nilV2 lxG sameV (plS ks).1 (opsC (runF (plL ks)).ops) (runF (plL ks)).ops.length (itemsC (plL ks)) ks.length (plS ks).1 (Int.ofNat (plS ks).2)
  have g15 : lwG9 15 (fun _ _ => L1 (plS ks).1) (itemsC (plL ks)) ks.length = true := isPure_of o15 (gs_gh1 _ _)
  have g9 : lwG9 9 (fun _ _ => gs 13 (opsC (runF (plL ks)).ops) (runF (plL ks)).ops.length) (itemsC (plL ks)) ks.length = true := isPure_of o9 (gs_gh1 _ _)
  have g14 : lxG (L1 (plS ks).1) (L1 (plS ks).1) = true := lxG_of (by rw [(plS_len ks).1]; omega)
  have gs_ : sameV (L1 (plS ks).1) (L1 (plS ks).1) = true := decide_eq_true rfl
  rw [g15, g9, g14, gs_, h2] at run
  simp only [cond_true, beq_self_eq_true] at run
  unfold plEnd at run
  rw [h2] at OK1
  exact RowOK.go (RowOK.of_seeA (F2 := [(2, .bool true)]) OK1 (m := 20) (j := 20) (f := 6) (p := keeps 6) (ts := [2]) rfl (pl_dr3 _ _ _ _ _ _ _ _ _ _) (by rw [← h2]; rw [← h2] at run; exact run))
theorem pl_pure (ks : List Int) : PureOK Try.prog 6 [L1 ks] (.bool true) := by
  obtain ⟨fn, f1, f2, f3, f4⟩ := fnOf fn6
  have fin : ∀ {F' : Fr}, GoOK Try.prog 0 0 103 (flat (bodyOf 6)) (enterF 0 [L1 ks]) [] .ret F' [] → F'.get 2 = some (.bool true) → PureOK Try.prog 6 [L1 ks] (.bool true) := fun all hg => by
    have hc := CallOK.of_go noOK (f := 6) (fn := fn) (c := bodyOf 6) (args := [L1 ks]) (l := [.bool true]) (H := []) f1 f2 (by rw [f3]; simp) (by rw [f3]; exact GoOK.code all) (.inr rfl) (by rw [f4]; simp only [resA, hg])
    exact PureOK.of_call hc (Gh.plain rfl)
  by_cases hl : ks.length ≤ 40
  · have all := (pl_hd ks hl).app ((pl_loop ks hl).app (pl_fin ks hl))
    rw [← pl_flat] at all
    exact fin all rfl
  · have h := pl_head2 numF plW (lwG plW) lwG8 (lwG9 9 nilV2) nilV2 (lwG9 15 nilV2) nilV2 lxG sameV ks
    rw [decide_eq_true (show (40 : Int) < Int.ofNat ks.length by simp; omega), cond_true] at h
    have r := RowOK.of_seeA (F2 := [(2, .bool true)]) OKx (m := 20) (j := 20) (f := 6) (p := keeps 6) (lo := 0) (n := 103) (ts := [2]) rfl (pl_dr1 _ _ _ _ _ _ _ _ _ _) h
    have all := (RowOK.go (base := 0) r).left (by intro h; cases h) ([.block 0 (.loop plB)] ++ plP 11 2)
    rw [← pl_flat] at all
    exact fin all rfl
end Go.Proofs.Ytbcikaoklpekhaa.Ab
