/- hanger.item, told whole: whatever the state that is told, behind the call the next one is. -/
import Derived.Test.YtbcikaoklpekhaaDepSt
namespace Go.Proofs.Ytbcikaoklpekhaa.Ab
open Go Go.RowKit
set_option linter.unusedVariables false
set_option linter.unusedSimpArgs false
set_option maxRecDepth 100000
/-- A told value in other words: itself; nil as a list that holds nothing. -/
def To (v v' : Value) : Prop := (v' = v ∧ Gh v) ∨ (v = nilV ∧ v' = L1 [])
theorem To.l1 (xs : List Int) : To (L1 xs) (L1 xs) := .inl ⟨rfl, Gh.L1 xs⟩
theorem To.rfl_ {v : Value} (h : Gh v) : To v v := .inl ⟨rfl, h⟩
theorem To.nil_ : To nilV (L1 []) := .inr ⟨rfl, rfl⟩
structure Tos (l l' : List Value) : Prop where
  len : l.length = l'.length
  at_ : ∀ (i : Nat) (x y : Value), l[i]? = some x → l'[i]? = some y → To x y
theorem Tos.refl {l : List Value} (h : ∀ x ∈ l, Gh x) : Tos l l := ⟨rfl, fun i x y a b => by rw [a] at b; cases b; exact To.rfl_ (h x (List.mem_of_getElem? a))⟩
theorem Tos.append {a b c d : List Value} (h : Tos a b) (k : Tos c d) : Tos (a ++ c) (b ++ d) := by
  refine ⟨by simp [h.len, k.len], fun i x y hx hy => ?_⟩
  by_cases hi : i < a.length
  · rw [List.getElem?_append_left hi] at hx
    rw [List.getElem?_append_left (by rw [← h.len]; exact hi)] at hy
    exact h.at_ i x y hx hy
  · rw [List.getElem?_append_right (by omega)] at hx
    rw [List.getElem?_append_right (by rw [← h.len]; omega), ← h.len] at hy
    exact k.at_ _ x y hx hy
theorem Tos.cons {x y : Value} {l l' : List Value} (h : To x y) (k : Tos l l') : Tos (x :: l) (y :: l') := by
  refine ⟨by simp [k.len], fun i a b ha hb => ?_⟩
  cases i with
  | zero => simp at ha hb; subst ha; subst hb; exact h
  | succ i => exact k.at_ i a b (by simpa using ha) (by simpa using hb)
theorem Tos.nil_ : Tos [] [] := Tos.refl (fun _ h => by cases h)
/-- A row told: nil, or a block of its own. -/
def RowT (H : Heap) (v : Value) (z : Nat) (e : TypeId) (l : List Value) (n : Nat) : Prop :=
  (v = nilV ∧ n = 0) ∨ (0 < n ∧ ∃ k l', 0 < k ∧ v = sl k n z ∧ H[k]? = some (some ⟨l', e, none⟩) ∧ Tos l' l)
structure Tells (H : Heap) (s : St) : Prop where
  hg : ∃ R c o a, H[0]? = some (hgB R c o a) ∧ (∀ i, i < 32 → To (R i) (L1 (s.R i))) ∧ To c (L1 s.ctrl) ∧
    RowT H o 13 32 (opsC s.ops) s.ops.length ∧ RowT H a 1 3 (s.ats.map (Value.int .i64)) s.ats.length
/-- How it is told ahead of the call. -/
def sliV (k n z : Nat) : Value := match n with
  | 0 => nilV
  | n + 1 => sl k (n + 1) z
def rowB (n : Nat) (l : List Value) (e : TypeId) : Option Blk := match n with
  | 0 => none
  | _ + 1 => some ⟨l, e, none⟩
def stR (s : St) : Nat → Value := fun i => L1 (s.R i)
def stH (s : St) : Heap := [hgB (stR s) (L1 s.ctrl) (sliV 1 s.ops.length 13) (sliV 2 s.ats.length 1), rowB s.ops.length (opsC s.ops) 32, rowB s.ats.length (s.ats.map (Value.int .i64)) 3]
/-- Small enough. -/
structure Fits (s : St) : Prop where
  R : ∀ i, (s.R i).length ≤ 1048576
  ctrl : s.ctrl.length ≤ 1048576
  ops : s.ops.length ≤ 1048576
  ats : s.ats.length ≤ 1048576
/-! ### The pieces -/
theorem dr1 : (itP 0 3).all (drawsOK ((ctx itΦ).dr 20)) = true := by kernel_rfl
theorem dr2 : (itP 3 1).all (drawsOK ((ctx itΦ).dr 20)) = true := by kernel_rfl
theorem dr2c : (itP 4 1).all (drawsOK ((ctx itΦ).dr 20)) = true := by kernel_rfl
theorem dr3 : (itP 5 5).all (drawsOK ((ctx itΦ).dr 20)) = true := by kernel_rfl
theorem dr4 : (itP 10 1).all (drawsOK ((ctx itΦ).dr 20)) = true := by kernel_rfl
theorem dr5 : (itP 11 2).all (drawsOK ((ctx itΦ).dr 20)) = true := by kernel_rfl
theorem dr6 : (itP 13 3).all (drawsOK ((ctx itΦ).dr 20)) = true := by kernel_rfl
theorem dr7 : (itP 16 1).all (drawsOK ((ctx itΦ).dr 20)) = true := by kernel_rfl
theorem it_flat : flat (bodyOf 20) = itP 0 3 ++ (itP 3 1 ++ (itP 4 1 ++ (itP 5 5 ++ (itP 10 1 ++ (itP 11 2 ++ (itP 13 3 ++ itP 16 1)))))) := by kernel_rfl
theorem it2c_t (H : Heap) : itRunA (itP 4 1) (itF2 true) H [] = some (.ret, [], H) := by kernel_rfl
theorem it2c_f (H : Heap) : itRunA (itP 4 1) (itF2 false) H [0, 3, 4, 36] = some (.normal, (itF2 false).map (fun e => some e.2), H) := by kernel_rfl
abbrev RO (l : List Code) (F : Fr) (H : Heap) (e : Exit) (F' : Fr) (H' : Heap) : Prop := RowOK Try.prog 0 190 l F H e F' H'
theorem gh_int (k : IntKind) (n : Int) : Gh (.int k n) := Gh.plain rfl
theorem ints_gh (l : List Int) : ∀ x ∈ l.map (Value.int .i64), Gh x := fun x hx => by
  obtain ⟨n, _, rfl⟩ := List.mem_map.1 hx; exact gh_int _ _
theorem tr_sliV {k n z j : Nat} (hk : k < j) (hz : 0 < z) : Tr j (sliV k n z) := by
  cases n with
  | zero => exact Tr.plain rfl
  | succ n => exact Tr.slice hk hz
theorem hgC_tr {j : Nat} {R : Nat → Value} {c o a : Value} (hR : ∀ i, Gh (R i)) (hc : Gh c) (ho : Tr j o) (ha : Tr j a) : ∀ x ∈ hgC R c o a, Tr j x := by
  intro x hx
  rcases hgC_mem hx with ⟨i, _, rfl⟩ | rfl | rfl | rfl
  · exact Tr.gh (hR i)
  · exact Tr.gh hc
  · exact ho
  · exact ha
theorem itemC_gh (x : Item) : ∀ v ∈ itemC x, Gh v := fun v hv => by
  simp only [itemC, List.mem_cons, List.not_mem_nil, or_false] at hv
  rcases hv with rfl | rfl | rfl | rfl | rfl | rfl <;> exact Gh.plain rfl
theorem instC_gh (i : Inst) : ∀ v ∈ instC i, Gh v := fun v hv => by
  simp only [instC, List.mem_cons, List.not_mem_nil, or_false] at hv
  rcases hv with rfl | rfl | rfl | rfl | rfl | rfl | rfl | rfl <;> exact Gh.plain rfl
theorem itH_tr {j : Nat} (hj : 5 < j) (s : St) (n : Nat) (l : List Value) (hl : ∀ v ∈ l, Gh v) (x : Item) (i : Inst) :
    ∀ b, some b ∈ itH (stR s) (L1 s.ctrl) (sliV 1 s.ops.length 13) (rowB s.ops.length (opsC s.ops) 32) n l x i → b.view = none ∧ ∀ v ∈ b.cells, Tr j v := by
  intro b hb
  simp only [itH, List.mem_cons, List.not_mem_nil, or_false] at hb
  rcases hb with h | h | h | h | h | h | h
  · simp only [hgB, Option.some.injEq] at h; subst h
    exact ⟨rfl, hgC_tr (fun i => Gh.L1 _) (Gh.L1 _) (tr_sliV (by omega) (by omega)) (Tr.slice (by omega) (by omega))⟩
  · revert h
    cases s.ops.length with
    | zero => intro h; cases h
    | succ m => intro h; simp only [rowB, Option.some.injEq] at h; subst h; exact ⟨rfl, fun v hv => Tr.gh (opsC_gh _ v hv)⟩
  · cases h
  · simp only [Option.some.injEq] at h; subst h; exact ⟨rfl, fun v hv => Tr.gh (itemC_gh x v hv)⟩
  · simp only [Option.some.injEq] at h; subst h; exact ⟨rfl, fun v hv => Tr.gh (itemC_gh x v hv)⟩
  · simp only [Option.some.injEq] at h; subst h; exact ⟨rfl, fun v hv => Tr.gh (hl v hv)⟩
  · simp only [Option.some.injEq] at h; subst h; exact ⟨rfl, fun v hv => Tr.gh (instC_gh i v hv)⟩
def atL (s : St) : List Value := s.ats.map (Value.int .i64) ++ [.int .i64 (-1)]
theorem atL_len (s : St) : (atL s).length = s.ats.length + 1 := by simp [atL]
theorem atL_gh (s : St) : ∀ v ∈ atL s, Gh v := fun v hv => by
  rcases List.mem_append.1 hv with h | h
  · exact ints_gh _ v h
  · simp at h; subst h; exact gh_int _ _
noncomputable abbrev itHs (s : St) (x : Item) (i : Inst) : Heap := itH (stR s) (L1 s.ctrl) (sliV 1 s.ops.length 13) (rowB s.ops.length (opsC s.ops) 32) (s.ats.length + 1) (atL s) x i
theorem itF1_tr (b : Bool) : ∀ e ∈ itF1 b, Tr 7 e.2 := fun e he => by
  simp only [itF1, List.mem_cons, List.not_mem_nil, or_false] at he
  rcases he with rfl | rfl | rfl | rfl <;> first | exact Tr.ptr (by omega) | exact Tr.plain rfl
theorem row1 (s : St) (x : Item) (hf : Fits s) : RO (itP 0 3) (enterF 0 [ptr 0, .agg ⟨itemC x⟩]) (stH s ++ [some ⟨itemC x, 37, none⟩]) .normal (itF1 (dec x.word).2) (itHs s x (dec x.word).1) := by
  refine RowOK.of_see itΦ_ok (m := 20) (j := 20) (f := 20) (p := keeps 20) (k := 7) (ts := [0, 3, 4, 5]) rfl dr1 ?_ (by simp [stH]) rfl (itF1_tr _) (itH_tr (by omega) s _ _ (atL_gh s) x _)
  have ha := hf.ats
  cases hl : s.ats with
  | nil =>
    have h := it1_nil (stR s) (L1 s.ctrl) (sliV 1 s.ops.length 13) (rowB s.ops.length (opsC s.ops) 32) x
    unfold itRun at h
    have e1 : stH s ++ [some ⟨itemC x, 37, none⟩] = [hgB (stR s) (L1 s.ctrl) (sliV 1 s.ops.length 13) (.slice none 0 0), rowB s.ops.length (opsC s.ops) 32, none, some ⟨itemC x, 37, none⟩] := by
      simp only [stH, hl]; rfl
    rw [e1, h]
    have e2 : atL s = [.int .i64 (-1)] := by simp [atL, hl]
    simp only [itHs, itH1, itH, e2, hl]
    cases (dec x.word).2 <;> rfl
  | cons t r =>
    have h := it1_row (stR s) (L1 s.ctrl) (sliV 1 s.ops.length 13) (rowB s.ops.length (opsC s.ops) 32) x r.length (s.ats.map (Value.int .i64))
    unfold itRun at h
    have e1 : stH s ++ [some ⟨itemC x, 37, none⟩] = [hgB (stR s) (L1 s.ctrl) (sliV 1 s.ops.length 13) (sl 2 (r.length + 1) 1), rowB s.ops.length (opsC s.ops) 32, some ⟨s.ats.map (Value.int .i64), 3, none⟩, some ⟨itemC x, 37, none⟩] := by
      simp only [stH, hl]; rfl
    have e3 : moreG (s.ats.map (Value.int .i64)).length (r.length + 1) 1 8 = true := by
      rw [hl] at ha
      simp only [List.length_cons] at ha
      simp only [moreG, hl, Bool.and_eq_true, List.length_map, List.length_cons]
      exact ⟨by simp, Nat.ble_eq_true_of_le (by omega), Nat.ble_eq_true_of_le (by omega)⟩
    rw [e3, cond_true] at h
    rw [e1, h]
    simp only [itHs, itH1, itH, hl, List.length_cons]
    have e2 : atL s = (t :: r).map (Value.int .i64) ++ [.int .i64 (-1)] := by simp [atL, hl]
    rw [e2]
    cases (dec x.word).2 <;> rfl
theorem itF2_tr (b : Bool) : ∀ e ∈ itF2 b, Tr 7 e.2 := fun e he => by
  simp only [itF2, List.mem_cons, List.not_mem_nil, or_false] at he
  rcases he with rfl | rfl | rfl | rfl <;> first | exact Tr.ptr (by omega) | exact Tr.plain rfl
theorem row2 (s : St) (x : Item) (i : Inst) (b : Bool) : RO (itP 3 1) (itF1 b) (itHs s x i) .normal (itF2 (x.trap || !b)) (itHs s x i) := by
  refine RowOK.of_see itΦ_ok (m := 20) (j := 20) (f := 20) (p := keeps 20) (k := 7) (ts := [0, 3, 4, 36]) rfl dr2 ?_ (by simp [itH]) rfl (itF2_tr _) (itH_tr (by omega) s _ _ (atL_gh s) x _)
  cases b with
  | false =>
    have h := it2_no (stR s) (L1 s.ctrl) (sliV 1 s.ops.length 13) (rowB s.ops.length (opsC s.ops) 32) (s.ats.length + 1) (atL s) x i
    unfold itRun at h
    rw [h]
    cases x.trap <;> rfl
  | true =>
    have h := it2_is (stR s) (L1 s.ctrl) (sliV 1 s.ops.length 13) (rowB s.ops.length (opsC s.ops) 32) (s.ats.length + 1) (atL s) x i
    unfold itRun at h
    rw [h]
    cases x.trap <;> rfl
theorem row2c_t (H : Heap) : RO (itP 4 1) (itF2 true) H .ret [] H :=
  RowOK.of_seeA itΦ_ok (m := 20) (j := 20) (f := 20) (p := keeps 20) (ts := []) rfl dr2c (it2c_t H)
theorem row2c_f (H : Heap) : RO (itP 4 1) (itF2 false) H .normal (itF2 false) H :=
  RowOK.of_seeA itΦ_ok (m := 20) (j := 20) (f := 20) (p := keeps 20) (ts := [0, 3, 4, 36]) rfl dr2c (it2c_f H)
theorem it4F_tr {j : Nat} (hj : 7 < j) (k : Int) (a b : List Int) (t : Bool) : ∀ e ∈ it4F k (L1 a) (L1 b) t, Tr j e.2 := fun e he => by
  simp only [it4F, List.mem_cons, List.not_mem_nil, or_false] at he
  rcases he with rfl | rfl | rfl | rfl | rfl | rfl | rfl | rfl <;> first | exact Tr.ptr (by omega) | exact Tr.gh (Gh.L1 _) | exact Tr.plain rfl
abbrev it4Hs (s : St) (x : Item) (i : Inst) (op : List Value) : Heap := it4H (stR s) (L1 s.ctrl) (sliV 1 s.ops.length 13) (rowB s.ops.length (opsC s.ops) 32) (s.ats.length + 1) (atL s) x i op
theorem rgG_of {r : Int} (h : 0 ≤ r ∧ r < 32) : rgG r = true := by simp [rgG, h.1, h.2]
theorem row3 (s : St) (x : Item) (i : Inst) (hi : InstOK i) : RO (itP 5 5) (itF2 false) (itHs s x i) .normal (it4F (kindF i.op) (L1 (s.R i.rs1.toNat)) (L1 (s.R i.rs2.toNat)) (opOf i x).2) (it4Hs s x i (opC (opOf i x).1 nilV nilV nilV)) := by
  have g : ∀ r : Int, 0 ≤ r ∧ r < 32 → rgV (stR s) (L1 s.ctrl) (sliV 1 s.ops.length 13) (sl 5 (s.ats.length + 1) 1) r = L1 (s.R r.toNat) := fun r hr => by
    unfold rgV
    rw [Nat.mul_one, Nat.zero_add, hgC_get (by omega)]; rfl
  refine RowOK.of_see itΦ_ok (m := 20) (j := 20) (f := 20) (p := keeps 20) (k := 8) (ts := [0, 4, 6, 7, 8, 9, 11, 60]) rfl dr3 ?_ (by simp [itH]) rfl (it4F_tr (by omega) _ _ _ _) (fun b hb => ?_)
  · have h := it3 (stR s) (L1 s.ctrl) (sliV 1 s.ops.length 13) (rowB s.ops.length (opsC s.ops) 32) (s.ats.length + 1) (atL s) x i
    unfold itRun at h
    have b1 : (Nat.blt (0 + i.rs1.toNat * 1) 35 && true) = true := by
      have := hi.rs1; rw [Bool.and_true, Nat.blt_eq]; omega
    have b2 : (Nat.blt (0 + i.rs2.toNat * 1) 35 && true) = true := by
      have := hi.rs2; rw [Bool.and_true, Nat.blt_eq]; omega
    rw [hi.op, rgG_of hi.rs1, rgG_of hi.rs2, b1, b2] at h
    simp only [cond_true] at h
    rw [h]
    simp only [itF3, itH3, g _ hi.rs1, g _ hi.rs2, it4F, it4Hs, it4H]
    cases (opOf i x).2 <;> rfl
  · simp only [it4Hs, it4H] at hb
    rcases List.mem_cons.1 hb with h | hb'
    · exact itH_tr (by omega) s _ _ (atL_gh s) x i b (List.mem_cons.2 (.inl h))
    · have hm : some b ∈ itHs s x i ∨ some b = some ⟨opC (opOf i x).1 nilV nilV nilV, 32, none⟩ := by
        simp only [itHs, itH, List.mem_cons, List.not_mem_nil, or_false] at hb' ⊢
        rcases hb' with h | h | h | h | h | h | h
        · exact .inl (.inr (.inl h))
        · exact .inl (.inr (.inr (.inl h)))
        · exact .inl (.inr (.inr (.inr (.inl h))))
        · exact .inl (.inr (.inr (.inr (.inr (.inl h)))))
        · exact .inl (.inr (.inr (.inr (.inr (.inr (.inl h))))))
        · exact .inl (.inr (.inr (.inr (.inr (.inr (.inr h))))))
        · exact .inr h
      rcases hm with h | h
      · exact itH_tr (by omega) s _ _ (atL_gh s) x i b h
      · cases h
        exact ⟨rfl, fun v hv => Tr.gh (opC_gh (Gh.plain rfl) (Gh.plain rfl) (Gh.plain rfl) v hv)⟩
theorem one_L1 (xs : List Int) : Ab.one (L1 xs) = true := rfl
theorem it4T_eq (k : Int) (c r1 r2 : List Int) (q : OpT) (leaf : Value → Value → Value → Res) (hc : c.length ≤ 1048576) (h1 : r1.length ≤ 1048576) (h2 : r2.length ≤ 1048576) :
    it4T k (L1 c) (L1 r1) (L1 r2) q leaf = leaf (bif q.kind != 4 then L1 r1 else nilV) (bif k == 5 || k == 6 then L1 r2 else nilV) (L1 c) := by
  unfold it4T
  rw [okL_L1 hc, okL_L1 h1, okL_L1 h2, unL_L1, unL_L1, unL_L1]
  cases (q.kind != 4) <;> cases (k == 5) <;> cases (k == 6) <;> rfl
theorem at4_eq {n : Nat} (h : n ≤ 1048577) : at4 (n + 1) = n := by
  unfold at4
  rw [w64_of (by simp) (by simp; omega)]
  simp
theorem at4G_eq {n : Nat} {l : List Value} {z : Res} (h : n ≤ 1048577) (hl : l.length = n + 1) : at4G (n + 1) l z = z := by
  unfold at4G
  rw [at4_eq h, hl, w64_of (by simp) (by simp; omega)]
  have e1 : (decide (0 ≤ Int.ofNat (n + 1) - 1) && decide (Int.ofNat (n + 1) - 1 < Int.ofNat (n + 1))) = true := by simp; omega
  have e2 : (Nat.blt n (n + 1) && true) = true := by rw [Bool.and_true, Nat.blt_eq]; omega
  rw [e1, e2]; rfl
theorem moreG_eq {n z b m : Nat} (h : m = n * z) (hb : (n + 1) * b ≤ 140737488355328) (hn : n ≤ 1048577) : moreG m n z b = true := by
  subst h
  simp only [moreG, Bool.and_eq_true]
  exact ⟨by simp, Nat.ble_eq_true_of_le hb, Nat.ble_eq_true_of_le (by omega)⟩
theorem To_bif {b : Bool} {xs : List Int} : To (bif b then L1 xs else nilV) (L1 (bif b then xs else [])) := by
  cases b
  · exact To.nil_
  · exact To.l1 _
theorem opC_to {q : OpT} {a d c a' d' c' : Value} (ha : To a a') (hd : To d d') (hc : To c c') : Tos (opC q a d c) (opC q a' d' c') := by
  have g : ∀ {v : Value}, plain v = true → To v v := fun h => To.rfl_ (Gh.plain h)
  exact .cons (g rfl) (.cons (g rfl) (.cons (g rfl) (.cons (g rfl) (.cons (g rfl) (.cons (g rfl) (.cons (g rfl) (.cons (g rfl) (.cons (g rfl) (.cons (g rfl) (.cons ha (.cons hd (.cons hc .nil_))))))))))))
theorem set_last (l : List Value) (a b : Value) : (l ++ [a]).set l.length b = l ++ [b] := by
  rw [List.set_append_right _ _ (Nat.le_refl _), Nat.sub_self]; rfl
/-- The rest of the told blocks behind the first one. -/
def RestT (b1 b3 b4 b5 : Option Blk) (i : Inst) (T : Heap) (o a : Value) (s : St) : Prop :=
  ∀ hb, RowT (hb :: b1 :: none :: b3 :: b4 :: b5 :: some ⟨instC i, 53, none⟩ :: T) o 13 32 (opsC s.ops) s.ops.length ∧ RowT (hb :: b1 :: none :: b3 :: b4 :: b5 :: some ⟨instC i, 53, none⟩ :: T) a 1 3 (s.ats.map (Value.int .i64)) s.ats.length
theorem sliT {H : Heap} {n z k : Nat} {e : TypeId} {l : List Value} (hk : 0 < k) (h : H[k]? = some (rowB n l e)) (hg : ∀ x ∈ l, Gh x) : RowT H (sliV k n z) z e l n := by
  cases n with
  | zero => exact .inl ⟨rfl, rfl⟩
  | succ n => exact .inr ⟨by omega, k, l, hk, rfl, h, Tos.refl hg⟩
theorem row4 (s : St) (x : Item) (i : Inst) (q : OpT) (b : Bool) (hf : Fits s) : ∃ o' b1 b4 T mv, To mv (L1 (mineL s b)) ∧ Ab.one mv = true ∧
    RO (itP 10 1) (it4F (kindF i.op) (L1 (s.R i.rs1.toNat)) (L1 (s.R i.rs2.toNat)) b) (it4Hs s x i (opC q nilV nilV nilV)) .normal (it4V (kindF i.op) (L1 (s.R i.rs1.toNat)) (L1 (s.R i.rs2.toNat)) mv)
      (it5H (stR s) (L1 s.ctrl) o' (sl 5 (s.ats.length + 1) 1) b1 (some ⟨itemC x, 37, none⟩) (some ⟨itemC x, 37, none⟩) b4 i T) ∧ RestT b1 (some ⟨itemC x, 37, none⟩) (some ⟨itemC x, 37, none⟩) b4 i T o' (sl 5 (s.ats.length + 1) 1) (takeOp s i (q, b)) := by
  have h2 := hf.ats
  have h3 := hf.ops
  cases b with
  | false =>
    refine ⟨sliV 1 s.ops.length 13, rowB s.ops.length (opsC s.ops) 32, some ⟨atL s, 3, none⟩, [some ⟨opC q nilV nilV nilV, 32, none⟩], nilV, To.nil_, rfl, RowOK.of_seeA itΦ_ok (m := 20) (j := 20) (f := 20) (p := keeps 20) (ts := [0, 4, 6, 7, 8, 11]) rfl dr4 (it4_no _ _ _ _ _ _ _ _ _ _ _ _), fun hb => ⟨?_, ?_⟩⟩
    · exact sliT (by omega) rfl (opsC_gh _)
    · refine .inr ⟨by simp [takeOp], 5, atL s, by omega, by simp [takeOp], rfl, ?_⟩
      have : (takeOp s i (q, false)).ats.map (Value.int .i64) = atL s := by simp [takeOp, atL]
      rw [this]; exact Tos.refl (atL_gh s)
  | true =>
    have e4 : ∀ v : Value, (atL s).set (at4 (s.ats.length + 1)) v = s.ats.map (Value.int .i64) ++ [v] := fun v => by
      rw [at4_eq (by omega)]
      have := set_last (s.ats.map (Value.int .i64)) (.int .i64 (-1)) v
      rwa [List.length_map] at this
    have ea : (takeOp s i (q, true)).ats = s.ats ++ [Int.ofNat s.ops.length] := rfl
    have eo : (takeOp s i (q, true)).ops = s.ops ++ [newOp s i q] := rfl
    have tn : Tos (opC q (bif q.kind != 4 then L1 (s.R i.rs1.toNat) else nilV) (bif kindF i.op == 5 || kindF i.op == 6 then L1 (s.R i.rs2.toNat) else nilV) (L1 s.ctrl)) (newOp s i q).cells :=
      opC_to To_bif To_bif (To.l1 _)
    cases hl : s.ops with
    | nil =>
      have h := it4_nil (stR s) (L1 s.ctrl) (L1 (s.R i.rs1.toNat)) (L1 (s.R i.rs2.toNat)) (s.ats.length + 1) (atL s) x i q (kindF i.op)
      rw [it4T_eq _ _ _ _ _ _ hf.ctrl (hf.R _) (hf.R _), at4G_eq (by omega) (atL_len s), e4] at h
      refine ⟨_, none, _, _, L1 [Int.ofNat 0], ?_, rfl, RowOK.of_seeA itΦ_ok (m := 20) (j := 20) (f := 20) (p := keeps 20) (ts := [0, 4, 6, 7, 8, 11]) rfl dr4 (by
        have e1 : it4Hs s x i (opC q nilV nilV nilV) = it4H (stR s) (L1 s.ctrl) nilV none (s.ats.length + 1) (atL s) x i (opC q nilV nilV nilV) := by
          simp only [it4Hs, hl]; rfl
        rw [e1]; exact h), fun hb => ⟨?_, ?_⟩⟩
      · simp only [mineL, hl, cond_true]; exact To.l1 _
      · refine .inr ⟨by rw [eo]; simp, 8, _, by omega, by rw [eo, hl]; rfl, rfl, ?_⟩
        rw [eo, hl, List.nil_append]
        simp only [opsC, List.flatMap_cons, List.flatMap_nil, List.append_nil]
        exact tn
      · refine .inr ⟨by rw [ea]; simp, 5, _, by omega, by rw [ea]; simp, rfl, ?_⟩
        rw [ea, hl, List.map_append]
        exact Tos.refl fun v hv => by
          rcases List.mem_append.1 hv with h | h
          · exact ints_gh _ v h
          · simp at h; subst h; exact gh_int _ _
    | cons o1 r =>
      have hlen : s.ops.length = r.length + 1 := by rw [hl]; rfl
      have h := it4_row (stR s) (L1 s.ctrl) (L1 (s.R i.rs1.toNat)) (L1 (s.R i.rs2.toNat)) r.length (s.ats.length + 1) (atL s) (opsC s.ops) x i q (kindF i.op)
      rw [it4T_eq _ _ _ _ _ _ hf.ctrl (hf.R _) (hf.R _), at4G_eq (by omega) (atL_len s), e4, moreG_eq (by rw [opsC_len, hlen]) (by omega) (by omega), cond_true] at h
      refine ⟨_, none, _, _, L1 [Int.ofNat (r.length + 1)], ?_, rfl, RowOK.of_seeA itΦ_ok (m := 20) (j := 20) (f := 20) (p := keeps 20) (ts := [0, 4, 6, 7, 8, 11]) rfl dr4 (by
        have e1 : it4Hs s x i (opC q nilV nilV nilV) = it4H (stR s) (L1 s.ctrl) (sl 1 (r.length + 1) 13) (some ⟨opsC s.ops, 32, none⟩) (s.ats.length + 1) (atL s) x i (opC q nilV nilV nilV) := by
          simp only [it4Hs, hlen]; rfl
        rw [e1]; exact h), fun hb => ⟨?_, ?_⟩⟩
      · simp only [mineL, hlen, cond_true]; exact To.l1 _
      · refine .inr ⟨by rw [eo]; simp, 8, _, by omega, by rw [eo, List.length_append, hlen]; rfl, rfl, ?_⟩
        rw [eo, opsC_append]
        exact Tos.append (Tos.refl (opsC_gh _)) (by simpa [opsC] using tn)
      · refine .inr ⟨by rw [ea]; simp, 5, _, by omega, by rw [ea]; simp, rfl, ?_⟩
        rw [ea, hlen, List.map_append]
        exact Tos.refl fun v hv => by
          rcases List.mem_append.1 hv with h | h
          · exact ints_gh _ v h
          · simp at h; subst h; exact gh_int _ _
section
variable (R : Nat → Value) (c r1 r2 : List Int) (o a mv : Value) (b1 b3 b4 b5 : Option Blk) (i : Inst) (T : Heap) (k : Int) (hc : c.length ≤ 1048576) (h1 : r1.length ≤ 1048576) (h2 : r2.length ≤ 1048576)
include hc h1 h2
theorem row5 : RO (itP 11 2) (it4V k (L1 r1) (L1 r2) mv) (it5H R (L1 c) o a b1 b3 b4 b5 i T) .normal (it4V k (L1 r1) (L1 r2) mv) (it5H R (L1 (bif k == 3 || i.op == 4 then jn (c ++ r1 ++ r2) else c)) o a b1 b3 b4 b5 i T) := by
  refine RowOK.of_seeA itΦ_ok (m := 20) (j := 20) (f := 20) (p := keeps 20) (ts := [0, 4, 6, 7, 8, 11]) rfl dr5 ?_
  have h := it5 R (L1 c) o a (L1 r1) (L1 r2) mv b1 b3 b4 b5 i T k
  have e : ∀ z, it5J (L1 c) (L1 r1) (L1 r2) z = z := fun z => by
    unfold it5J
    rw [okL_L1 hc, okL_L1 h1, okL_L1 h2]; rfl
  have e2 : join3V (L1 c) (L1 r1) (L1 r2) = L1 (jn (c ++ r1 ++ r2)) := by
    unfold join3V; rw [unL_L1, unL_L1, unL_L1]
  rw [e, e2] at h
  unfold itRunA at h
  rw [h]
  cases (k == 3) <;> cases (i.op == 4) <;> rfl
omit hc h1 h2 in
theorem row6 (hi : InstOK i) : RO (itP 13 3) (it4V k (L1 r1) (L1 r2) mv) (it5H R (L1 c) o a b1 b3 b4 b5 i T) (bif rdF i.op && !(i.rd == 0) then .normal else .ret) (it4V k (L1 r1) (L1 r2) mv) (it5H R (L1 c) o a b1 b3 b4 b5 i T) := by
  refine RowOK.of_seeA itΦ_ok (m := 20) (j := 20) (f := 20) (p := keeps 20) (ts := [0, 4, 6, 7, 8, 11]) rfl dr6 ?_
  have h := it6 R (L1 c) o a (L1 r1) (L1 r2) mv b1 b3 b4 b5 i T k
  have e : ∀ b z, dup b z = z := fun b z => by cases b <;> rfl
  rw [hi.op, cond_true] at h
  simp only [e] at h
  unfold itRunA at h
  rw [h]
  cases rdF i.op <;> cases (i.rd == 0) <;> rfl
omit hc in
theorem row7 (hi : InstOK i) (hm : Ab.one mv = true) : RO (itP 16 1) (it4V k (L1 r1) (L1 r2) mv) (it5H R (L1 c) o a b1 b3 b4 b5 i T) .normal []
    (it5H (upd R i.rd.toNat (bif k == 1 && (i.op != 1 && i.op != 2) then L1 (jn (r1 ++ r2)) else bif k == 4 || k == 6 then mv else nilV)) (L1 c) o a b1 b3 b4 b5 i T) := by
  refine RowOK.of_seeA itΦ_ok (m := 20) (j := 20) (f := 20) (p := keeps 20) (ts := []) rfl dr7 ?_
  have h := it7 R (L1 c) o a (L1 r1) (L1 r2) mv b1 b3 b4 b5 i T k
  have e1 : ∀ z, it7J (L1 r1) (L1 r2) z = z := fun z => by
    unfold it7J
    rw [okL_L1 h1, okL_L1 h2]; rfl
  have e2 : join2V (L1 r1) (L1 r2) = L1 (jn (r1 ++ r2)) := by
    unfold join2V; rw [unL_L1, unL_L1]
  have hrd := hi.rd
  have e3 : ∀ z, it7G i.rd true z = z := fun z => by
    have g : (Nat.blt (0 + i.rd.toNat * 1) 35 && true) = true := by rw [Bool.and_true, Nat.blt_eq]; omega
    unfold it7G
    rw [g]
    simp [hrd.1, hrd.2]
  have e4 : ∀ v, it7S R (L1 c) o a v b1 b3 b4 b5 i T = it5H (upd R i.rd.toNat v) (L1 c) o a b1 b3 b4 b5 i T := fun v => by
    unfold it7S it5H hgB
    rw [Nat.mul_one, Nat.zero_add, hgC_set (by omega)]
  rw [e1, e2, dropH_nil, dropH_nil, List.append_nil, List.append_nil] at h
  unfold it7E at h
  simp only [hm, e3, e4] at h
  unfold itRunA at h
  rw [h]
  cases (k == 1) <;> cases (i.op != 1) <;> cases (i.op != 2) <;> cases (k == 4) <;> cases (k == 6) <;> rfl
end
theorem fn20 : sigOf 20 = some (190, []) := by kernel_rfl
theorem item_call {args : List Value} {H H' : Heap} {F' : Fr} {e : Exit} (hl : args.length ≤ 190) (h : RO (flat (bodyOf 20)) (enterF 0 args) H e F' H') (he : e = .normal ∨ e = .ret) : CallOK Try.prog 0 20 args H (.tuple ⟨[]⟩) H' := by
  obtain ⟨fn, h1, h2, h3, h4⟩ := fnOf fn20
  refine CallOK.of_code itΦ_ok (f := 20) (fn := fn) (l := []) h1 h2 (by rw [h3]; exact hl) (RowOK.code (by rw [h3]; exact h)) he ?_
  rw [h4]; rfl
theorem item_ok (s : St) (x : Item) (hf : Fits s) : ∃ H', CallOK Try.prog 0 20 [ptr 0, .agg ⟨itemC x⟩] (stH s ++ [some ⟨itemC x, 37, none⟩]) (.tuple ⟨[]⟩) H' ∧ Tells H' (itemF s x) := by
  have h1 := row1 s x hf
  have h2 := row2 s x (dec x.word).1 (dec x.word).2
  cases hb : (x.trap || !(dec x.word).2) with
  | true =>
    rw [hb] at h2
    refine ⟨_, item_call (by simp) (by rw [it_flat]; exact h1.app (h2.app ((row2c_t _).left (by intro h; cases h) _))) (.inr rfl), ?_⟩
    have e : itemF s x = { s with ats := s.ats ++ [-1] } := by unfold itemF; rw [hb]; rfl
    rw [e]
    refine ⟨stR s, L1 s.ctrl, _, _, rfl, fun i _ => To.l1 _, To.l1 _, sliT (by omega) rfl (opsC_gh _), ?_⟩
    refine .inr ⟨by simp, 5, atL s, by omega, by simp, rfl, ?_⟩
    have : (s.ats ++ [-1]).map (Value.int .i64) = atL s := by simp [atL]
    rw [this]; exact Tos.refl (atL_gh s)
  | false =>
    rw [hb] at h2
    have hd : (dec x.word).2 = true := by
      rw [Bool.or_eq_false_iff] at hb
      simpa using hb.2
    have hi := dec_ok hd
    have e : itemF s x = instF s (dec x.word).1 x := by unfold itemF; rw [hb]; rfl
    rw [e]
    generalize (dec x.word).1 = i at hi h1 h2
    have h3 := row3 s x i hi
    obtain ⟨o', b1, b4, T, mv, hm1, hm2, h4, hr⟩ := row4 s x i (opOf i x).1 (opOf i x).2 hf
    have h5 := row5 (stR s) s.ctrl (s.R i.rs1.toNat) (s.R i.rs2.toNat) o' (sl 5 (s.ats.length + 1) 1) mv b1 (some ⟨itemC x, 37, none⟩) (some ⟨itemC x, 37, none⟩) b4 i T (kindF i.op) hf.ctrl (hf.R _) (hf.R _)
    have h6 := row6 (stR s) (takeCtrl s i) (s.R i.rs1.toNat) (s.R i.rs2.toNat) o' (sl 5 (s.ats.length + 1) 1) mv b1 (some ⟨itemC x, 37, none⟩) (some ⟨itemC x, 37, none⟩) b4 i T (kindF i.op) hi
    cases hx : (rdF i.op && !(i.rd == 0)) with
    | false =>
      rw [hx] at h6
      refine ⟨_, item_call (by simp) (by rw [it_flat]; exact h1.app (h2.app ((row2c_f _).app (h3.app (h4.app (h5.app (h6.left (by intro h; cases h) _))))))) (.inr rfl), ?_⟩
      refine ⟨stR s, L1 (takeCtrl s i), o', sl 5 (s.ats.length + 1) 1, rfl, fun j _ => ?_, To.l1 _, (hr _).1, (hr _).2⟩
      simp only [instF, hx, cond_false]; exact To.l1 _
    | true =>
      rw [hx] at h6
      have h7 := row7 (stR s) (takeCtrl s i) (s.R i.rs1.toNat) (s.R i.rs2.toNat) o' (sl 5 (s.ats.length + 1) 1) mv b1 (some ⟨itemC x, 37, none⟩) (some ⟨itemC x, 37, none⟩) b4 i T (kindF i.op) (hf.R _) (hf.R _) hi hm2
      refine ⟨_, item_call (by simp) (by rw [it_flat]; exact h1.app (h2.app ((row2c_f _).app (h3.app (h4.app (h5.app (h6.app h7)))))) ) (.inl rfl), ?_⟩
      refine ⟨_, L1 (takeCtrl s i), o', sl 5 (s.ats.length + 1) 1, rfl, fun j _ => ?_, To.l1 _, (hr _).1, (hr _).2⟩
      simp only [instF, hx, cond_true]
      by_cases hj : j = i.rd.toNat
      · simp only [upd, if_pos hj, takeReg]
        cases kindF i.op == 1 && (i.op != 1 && i.op != 2) with
        | true => exact To.l1 _
        | false =>
          rw [cond_false, cond_false]
          cases kindF i.op == 4 || kindF i.op == 6 with
          | true => exact hm1
          | false => exact To.nil_
      · simp only [upd, if_neg hj]; exact To.l1 _
end Go.Proofs.Ytbcikaoklpekhaa.Ab
