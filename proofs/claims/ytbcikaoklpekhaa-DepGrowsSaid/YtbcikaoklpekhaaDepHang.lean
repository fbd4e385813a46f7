/- dep.hang: all items taken in. -/
import Derived.Test.YtbcikaoklpekhaaDepItemOk
import Derived.Test.YtbcikaoklpekhaaDepJn
import Derived.Test.YtbcikaoklpekhaaAb20
namespace Go.Proofs.Ytbcikaoklpekhaa.Ab
open Go Go.RowKit
set_option linter.unusedVariables false
set_option linter.unusedSimpArgs false
set_option maxRecDepth 100000
/-! ### The run -/
noncomputable def hP (k l : Nat) : List Code := ((flat (bodyOf 16)).drop k).take l
noncomputable def hB : Code := loopIn (flat (bodyOf 16))[3]?
noncomputable def hgΦ (G : Nat → List Value → Heap → Bool) (K : List Value → Heap → Heap) : Oracle := fun lo f args H => match f with
  | 20 => some [(G lo args H, .tuple ⟨[]⟩, K args H)]
  | _ => none
noncomputable def hRun (G : Nat → List Value → Heap → Bool) (K : List Value → Heap → Heap) (l : List Code) (F : Fr) (H : Heap) (ts : List Nat) : Option (Exit × List (Option Value) × Heap) :=
  runL ((ctx (hgΦ G K)).at_ 16) (callK (ctx (hgΦ G K)) 20) 20 0 19 16 (keeps 16) l F H (seeA ts)
def hgF (xs : List Value) (n : Nat) (k : Int) : Fr := [(3, ptr 0), (8, gs 6 xs n), (9, .int .i64 (Int.ofNat n)), (10, .int .i64 k)]
def cutX (xs : List Value) (k : Nat) : List Value := List.take 6 (List.drop 0 (List.drop (k * 6) xs))
def zeroI : List Value := [.int .u32 0, .int .u32 0, .int .u32 0, .int .u32 0, .bool false, .bool false]
def boxL (c : List Value) : List Value := List.take 0 zeroI ++ c ++ List.drop (0 + 6) zeroI
theorem hg_flat : flat (bodyOf 16) = hP 0 3 ++ ([.block 0 (.loop hB)] ++ hP 4 2) := by kernel_rfl
theorem fn16 : sigOf 16 = some (19, [.tmp 2]) := by kernel_rfl
theorem hg_head (G : Nat → List Value → Heap → Bool) (K : List Value → Heap → Heap) (xs : List Value) (n : Nat) : hRun G K (hP 0 3) (enterF 0 [gs 6 xs n]) [] [3, 8, 9, 10] =
    some (.normal, (hgF xs n 0).map (fun e => some e.2), [hgB (fun _ => nilV) nilV nilV nilV]) := by kernel_rfl
theorem hg_tail (G : Nat → List Value → Heap → Bool) (K : List Value → Heap → Heap) (xs : List Value) (n : Nat) (k : Int) (H : Heap) : hRun G K (hP 4 2) (hgF xs n k) H [2] = some (.ret, [some (ptr 0)], H) := by kernel_rfl
theorem hg_rnd (G : Nat → List Value → Heap → Bool) (K : List Value → Heap → Heap) (xs : List Value) (n k : Nat) (hb b1 b2 : Option Blk) : hRun G K (flat hB) (hgF xs n (Int.ofNat k)) [hb, b1, b2] [3, 8, 9, 10] =
    bif decide (Int.ofNat k < Int.ofNat n) then bif decide (Int.ofNat k < Int.ofNat n) && true then bif Nat.ble 6 (List.drop (k * 6) xs).length then bif Nat.beq (cutX xs k).length 6 && (cutX xs k).all Ab.one then
    bif Nat.ble 6 (boxL (cutX xs k)).length then bif G 0 [ptr 0, .agg ⟨List.take 6 (List.drop 0 (boxL (cutX xs k)))⟩] [hb, b1, b2, some ⟨boxL (cutX xs k), 37, none⟩] then
      some (.normal, (hgF xs n (w64 (Int.ofNat k + 1))).map (fun e => some e.2), K [ptr 0, .agg ⟨List.take 6 (List.drop 0 (boxL (cutX xs k)))⟩] [hb, b1, b2, some ⟨boxL (cutX xs k), 37, none⟩])
    else none else none else none else none else none
    else some (.exit 0, (hgF xs n (Int.ofNat k)).map (fun e => some e.2), [hb, b1, b2]) := by kernel_rfl
/-! ### Told anew -/
theorem To.vr {M : Mp} {sel : List Nat} {v v' u : Value} (h : To v v') (hv : VR M v u) : VR (selM M sel) v' u := by
  rcases h with ⟨rfl, hg⟩ | ⟨rfl, rfl⟩
  · exact tr_gh hg hv
  · exact tr_nil hv
theorem Tos.vr {M : Mp} {sel : List Nat} {l l' us : List Value} (h : Tos l l') (hv : VRs M l us) : VRs (selM M sel) l' us :=
  tr_vrs h.len (fun i x y hx hy u hu => (h.at_ i x y hx hy).vr hu) hv
theorem RowT.sel {H : Heap} {v : Value} {z n : Nat} {e : TypeId} {l : List Value} (h : RowT H v z e l n) (hz : 0 < z) (hH : 0 < H.length) : ∃ k, k < H.length ∧ (∀ b', rowB n l e = some b' → 0 < k ∧ b' = ⟨l, e, none⟩ ∧ ∃ l', H[k]? = some (some ⟨l', e, none⟩) ∧ Tos l' l) ∧
    ∀ (M : Mp) (sel : List Nat) (j : Nat) (u : Value), M.pl.length = H.length → sel[j]? = some k → VR M v u → VR (selM M sel) (sliV j n z) u := by
  rcases h with ⟨rfl, rfl⟩ | ⟨hn, k, l', hk, rfl, hb, ht⟩
  · refine ⟨0, hH, fun b' h => (by cases h), fun M sel j u _ _ hv => ?_⟩
    cases hv; exact .nils
  · obtain ⟨m, rfl⟩ : ∃ m, n = m + 1 := ⟨n - 1, by omega⟩
    have hkl := (List.getElem?_eq_some_iff.1 hb).1
    refine ⟨k, hkl, fun b' h => ⟨hk, (by cases h; rfl), l', hb, ht⟩, fun M sel j u hM hj hv => ?_⟩
    exact tr_slice hj (by rw [hM]; exact hkl) hz hv
theorem hgC_at {R : Nat → Value} {c o a : Value} {i : Nat} (h : i < 32) : (hgC R c o a)[i]? = some (R i) := by
  rw [hgC_eq, List.getElem?_append_left (by simpa using h)]; simp [h]
theorem rowB_elem {n : Nat} {l : List Value} {e : TypeId} {b : Blk} (h : rowB n l e = some b) : b = ⟨l, e, none⟩ := by
  cases n with
  | zero => cases h
  | succ n => cases h; rfl
theorem GoOK.told {n : Nat} {l : List Code} {F F1 F2 : Fr} {H H1 : Heap} {e : Exit} {s : St} (h : GoOK Try.prog 0 0 n l F H e F1 H1) (ht : Tells H1 s) (hF : ∀ e ∈ F2, F1.get e.1 = some e.2 ∧ (Gh e.2 ∨ e.2 = ptr 0)) : GoOK Try.prog 0 0 n l F H e F2 (stH s) := by
  obtain ⟨R, c, o, a, t0, tR, tc, to, ta⟩ := ht.hg
  have hH : 0 < H1.length := (List.getElem?_eq_some_iff.1 t0).1
  obtain ⟨ko, o1, o2, o3⟩ := to.sel (by omega) hH
  obtain ⟨ka, a1, a2, a3⟩ := ta.sel (by omega) hH
  intro M0 w0 M w1 w hbs ha Q rest hq
  refine h M0 w0 M w1 w hbs ha Q rest fun M1 a' w' hA => ?_
  have hl1 := hA.rel.len
  refine hq _ a' w' (hA.retell0 (List.eq_nil_of_length_eq_zero hbs) (F' := F2) (H' := stH s) [0, ko, ka] (fun x hx => ?_) (fun i j x b b' hi hj hb hb' => ?_) (fun _ _ _ _ => Nat.zero_le _) rfl (fun i b' hb => ?_) (fun x hx => ?_))
  · rw [hl1]
    simp only [List.mem_cons, List.not_mem_nil, or_false] at hx
    rcases hx with rfl | rfl | rfl
    · exact hH
    · exact o1
    · exact a1
  · have k1 : ∀ b, (stH s)[1]? = some (some b) → 0 < ko ∧ ∃ l', H1[ko]? = some (some ⟨l', 32, none⟩) := fun b hb => by
      have := o2 b (by simpa [stH] using hb)
      exact ⟨this.1, let ⟨l', h1, _⟩ := this.2.2; ⟨l', h1⟩⟩
    have k2 : ∀ b, (stH s)[2]? = some (some b) → 0 < ka ∧ ∃ l', H1[ka]? = some (some ⟨l', 3, none⟩) := fun b hb => by
      have := a2 b (by simpa [stH] using hb)
      exact ⟨this.1, let ⟨l', h1, _⟩ := this.2.2; ⟨l', h1⟩⟩
    have ne : ∀ b b', (stH s)[1]? = some (some b) → (stH s)[2]? = some (some b') → ko ≠ ka := fun b b' h1 h2 e => by
      obtain ⟨_, l1, e1⟩ := k1 b h1
      obtain ⟨_, l2, e2⟩ := k2 b' h2
      rw [e, e2] at e1
      simp at e1
    match i, j with
    | 0, 0 => rfl
    | 1, 1 => rfl
    | 2, 2 => rfl
    | 0, 1 => simp at hi hj; have := (k1 b' hb').1; omega
    | 0, 2 => simp at hi hj; have := (k2 b' hb').1; omega
    | 1, 0 => simp at hi hj; have := (k1 b hb).1; omega
    | 2, 0 => simp at hi hj; have := (k2 b hb).1; omega
    | 1, 2 => simp at hi hj; exact absurd (hi.trans hj.symm) (ne b b' hb hb')
    | 2, 1 => simp at hi hj; exact absurd (hj.trans hi.symm) (ne b' b hb' hb)
    | i + 3, _ => simp at hi
    | _, j + 3 => simp at hj
  · match i with
    | 0 =>
      simp only [stH, hgB, List.getElem?_cons_zero, Option.some.injEq] at hb
      subst hb
      refine ⟨0, _, rfl, t0, rfl, rfl, Nat.le_refl _, fun us hu => ?_⟩
      rw [List.take_of_length_le (by rw [← hu.length]; exact Nat.le_refl _)]
      refine tr_vrs ((hgC_len R c o a).trans (hgC_len _ _ _ _).symm) (fun i x y hx hy u hu => ?_) hu
      by_cases hi : i < 32
      · rw [hgC_at hi] at hx hy
        cases hx; cases hy
        exact (tR i hi).vr hu
      · have h35 : i < 35 := by have := (List.getElem?_eq_some_iff.1 hx).1; exact this
        have : i = 32 ∨ i = 33 ∨ i = 34 := by omega
        rcases this with rfl | rfl | rfl
        · cases hx; cases hy; exact tc.vr hu
        · cases hx; cases hy; exact o3 M1 _ 1 u hl1 rfl hu
        · cases hx; cases hy; exact a3 M1 _ 2 u hl1 rfl hu
    | 1 =>
      obtain ⟨h1, h2, l', h3, h4⟩ := o2 b' (by simpa [stH] using hb)
      subst h2
      refine ⟨ko, _, rfl, h3, rfl, rfl, by simp [h4.len], fun us hu => ?_⟩
      have hh : us.length = l'.length := hu.length.symm
      rw [List.take_of_length_le (by rw [hh, h4.len]; exact Nat.le_refl _)]
      exact h4.vr hu
    | 2 =>
      obtain ⟨h1, h2, l', h3, h4⟩ := a2 b' (by simpa [stH] using hb)
      subst h2
      refine ⟨ka, _, rfl, h3, rfl, rfl, by simp [h4.len], fun us hu => ?_⟩
      have hh : us.length = l'.length := hu.length.symm
      rw [List.take_of_length_le (by rw [hh, h4.len]; exact Nat.le_refl _)]
      exact h4.vr hu
    | i + 3 => simp [stH] at hb
  · obtain ⟨h1, h2⟩ := hF x hx
    refine ⟨x.2, h1, fun u hu => ?_⟩
    rcases h2 with h2 | h2
    · exact tr_gh h2 hu
    · rw [h2] at hu ⊢
      exact tr_ptr rfl (by rw [hl1]; exact hH) hu
/-! ### The loop -/
def itemsC (l : List Item) : List Value := l.flatMap itemC
noncomputable def runF (l : List Item) : St := l.foldl itemF St.nil
theorem flat_drop {α β : Type} {f : α → List β} {z : Nat} (hf : ∀ x, (f x).length = z) : ∀ (l : List α) (k : Nat), (l.flatMap f).drop (k * z) = (l.drop k).flatMap f
  | [], k => by simp
  | x :: l, 0 => by simp
  | x :: l, k + 1 => by
    rw [List.flatMap_cons, List.drop_succ_cons, ← flat_drop hf l k, Nat.add_mul, Nat.one_mul, Nat.add_comm, ← hf x, List.drop_append]
    simp [hf]
theorem flat_len {α β : Type} {f : α → List β} {z : Nat} (hf : ∀ x, (f x).length = z) (l : List α) : (l.flatMap f).length = l.length * z := by
  induction l with
  | nil => simp
  | cons x l ih => rw [List.flatMap_cons, List.length_append, ih, hf, List.length_cons, Nat.add_mul]; omega
theorem itemC_len (x : Item) : (itemC x).length = 6 := rfl
theorem cut_item (l : List Item) (k : Nat) (x : Item) (h : l[k]? = some x) : cutX (itemsC l) k = itemC x ∧ 6 ≤ ((itemsC l).drop (k * 6)).length := by
  have hk : k < l.length := (List.getElem?_eq_some_iff.1 h).1
  have hx : l[k] = x := (List.getElem?_eq_some_iff.1 h).2
  unfold cutX itemsC
  rw [flat_drop itemC_len, List.drop_eq_getElem_cons hk, hx, List.flatMap_cons, List.drop_zero]
  refine ⟨?_, ?_⟩
  · rw [List.take_left' (itemC_len x)]
  · rw [List.length_append, itemC_len]; omega
theorem inv_item {s : St} (h : Inv s) (x : Item) : Inv (itemF s x) ∧ (itemF s x).ats.length = s.ats.length + 1 := by
  unfold itemF
  cases hb : (x.trap || !(dec x.word).2) with
  | true => exact ⟨⟨h.R, h.ctrl, by have := h.ops; simp; omega⟩, by simp⟩
  | false =>
    rw [cond_false]
    generalize (dec x.word).1 = i
    have ho : (takeOp s i (opOf i x)).ops.length = s.ops.length + (if (opOf i x).2 then 1 else 0) := by
      unfold takeOp; cases (opOf i x).2 <;> simp
    have ha : (takeOp s i (opOf i x)).ats.length = s.ats.length + 1 := by
      unfold takeOp; cases (opOf i x).2 <;> simp
    have hle : s.ops.length ≤ (takeOp s i (opOf i x)).ops.length := by rw [ho]; omega
    have j2 : ∀ y ∈ s.R i.rs1.toNat ++ s.R i.rs2.toNat, 0 ≤ y ∧ y < Int.ofNat (takeOp s i (opOf i x)).ops.length := fun y hy => by
      rcases List.mem_append.1 hy with h1 | h1
      · exact ((h.R _).mono hle).2 y h1
      · exact ((h.R _).mono hle).2 y h1
    refine ⟨⟨fun j => ?_, ?_, ?_⟩, ha⟩
    · show Asc ((instF s i x).R j) (takeOp s i (opOf i x)).ops.length
      simp only [instF]
      cases hr : (rdF i.op && !(i.rd == 0)) with
      | false => rw [cond_false]; exact (h.R j).mono hle
      | true =>
        rw [cond_true]
        unfold upd
        by_cases hj : j = i.rd.toNat
        · rw [if_pos hj]
          unfold takeReg
          cases kindF i.op == 1 && (i.op != 1 && i.op != 2) with
          | true => exact Asc.jn j2
          | false =>
            cases kindF i.op == 4 || kindF i.op == 6 with
            | true =>
              rw [cond_false, cond_true, ho]
              unfold mineL
              cases (opOf i x).2 with
              | true => exact ⟨List.pairwise_singleton _ _, fun y hy => by simp at hy; subst hy; simp; omega⟩
              | false => exact Asc.nil_ _
            | false => exact Asc.nil_ _
        · rw [if_neg hj]; exact (h.R j).mono hle
    · show Asc (takeCtrl s i) (takeOp s i (opOf i x)).ops.length
      unfold takeCtrl
      cases kindF i.op == 3 || i.op == 4 with
      | true =>
        refine Asc.jn fun y hy => ?_
        rw [List.append_assoc] at hy
        rcases List.mem_append.1 hy with h1 | h1
        · exact (h.ctrl.mono hle).2 y h1
        · exact j2 y h1
      | false => exact h.ctrl.mono hle
    · show (takeOp s i (opOf i x)).ops.length ≤ (takeOp s i (opOf i x)).ats.length
      rw [ho, ha]
      have := h.ops
      split <;> omega
theorem inv_fold (l : List Item) : ∀ (s : St), Inv s → Inv (l.foldl itemF s) ∧ (l.foldl itemF s).ats.length = s.ats.length + l.length := by
  induction l with
  | nil => intro s h; exact ⟨h, rfl⟩
  | cons x l ih =>
    intro s h
    obtain ⟨h1, h2⟩ := inv_item h x
    obtain ⟨h3, h4⟩ := ih _ h1
    exact ⟨h3, by rw [List.foldl_cons, h4, h2, List.length_cons]; omega⟩
theorem inv_run (l : List Item) : Inv (runF l) ∧ (runF l).ats.length = l.length := by
  obtain ⟨h1, h2⟩ := inv_fold l St.nil Inv.nil_
  exact ⟨h1, by unfold runF; rw [h2]; simp [St.nil]⟩
theorem Inv.fits {s : St} (h : Inv s) (hl : s.ats.length ≤ 1048576) : Fits s := by
  have := h.ops
  exact ⟨fun i => Nat.le_trans (h.R i).len (by omega), Nat.le_trans h.ctrl.len (by omega), by omega, hl⟩
noncomputable def hgG (A : List Value) (H0 : Heap) : Nat → List Value → Heap → Bool := fun lo args H => @decide (lo = 0 ∧ args = A ∧ H = H0) (Classical.propDecidable _)
theorem hgΦ_ok {A : List Value} {H0 H' : Heap} (h : CallOK Try.prog 0 20 A H0 (.tuple ⟨[]⟩) H') : CtxOK Try.prog (ctx (hgΦ (hgG A H0) (fun _ _ => H'))) := ctxOK fun lo f args H l v H'' e hm => by
  unfold hgΦ at e
  split at e
  · cases e
    simp only [List.mem_cons, List.not_mem_nil, or_false, Prod.mk.injEq] at hm
    obtain ⟨h1, rfl, rfl⟩ := hm
    obtain ⟨rfl, rfl, rfl⟩ := @of_decide_eq_true _ (Classical.propDecidable _) h1.symm
    exact ⟨h, rfl⟩
  · cases e
noncomputable abbrev hgT : CtxOK Try.prog (ctx (hgΦ (fun _ _ _ => false) (fun _ H => H))) := ctxOK fun lo f args H l v H'' e hm => by
  unfold hgΦ at e
  split at e
  · cases e
    simp only [List.mem_cons, List.not_mem_nil, or_false, Prod.mk.injEq] at hm
    exact absurd hm.1 (by simp)
  · cases e
theorem hdr1 (G : Nat → List Value → Heap → Bool) (K : List Value → Heap → Heap) : (hP 0 3).all (drawsOK ((ctx (hgΦ G K)).dr 16)) = true := by kernel_rfl
theorem hdr2 (G : Nat → List Value → Heap → Bool) (K : List Value → Heap → Heap) : (hP 4 2).all (drawsOK ((ctx (hgΦ G K)).dr 16)) = true := by kernel_rfl
theorem hdr3 (G : Nat → List Value → Heap → Bool) (K : List Value → Heap → Heap) : (flat hB).all (drawsOK ((ctx (hgΦ G K)).dr 16)) = true := by kernel_rfl
theorem hgF_to (xs : List Value) (hg : ∀ x ∈ xs, Gh x) (n : Nat) (k : Int) : ∀ e ∈ hgF xs n k, (hgF xs n k).get e.1 = some e.2 ∧ (Gh e.2 ∨ e.2 = ptr 0) := fun e he => by
  simp only [hgF, List.mem_cons, List.not_mem_nil, or_false] at he
  rcases he with rfl | rfl | rfl | rfl
  · exact ⟨rfl, .inr rfl⟩
  · exact ⟨rfl, .inl (Gh.gs hg)⟩
  · exact ⟨rfl, .inl (gh_int _ _)⟩
  · exact ⟨rfl, .inl (gh_int _ _)⟩
theorem itemsC_gh (l : List Item) : ∀ v ∈ itemsC l, Gh v := fun v hv => by
  obtain ⟨x, _, h⟩ := List.mem_flatMap.1 hv
  exact itemC_gh x v h
theorem hang_round (l : List Item) (hl : l.length ≤ 1000000) (k : Nat) (hk : k < l.length) : GcOK Try.prog 0 0 19 hB (hgF (itemsC l) l.length (Int.ofNat k)) (stH (runF (l.take k))) .normal (hgF (itemsC l) l.length (Int.ofNat (k + 1))) (stH (runF (l.take (k + 1)))) := by
  obtain ⟨h1, h2⟩ := inv_run (l.take k)
  have hx : l[k]? = some l[k] := List.getElem?_eq_getElem hk
  obtain ⟨c1, c2⟩ := cut_item l k l[k] hx
  obtain ⟨H', i1, i2⟩ := item_ok (runF (l.take k)) l[k] (h1.fits (by rw [h2]; simp; omega))
  have e : runF (l.take (k + 1)) = itemF (runF (l.take k)) l[k] := by
    unfold runF
    rw [List.take_add_one, hx, List.foldl_append]; rfl
  rw [e]
  refine GoOK.code (GoOK.told (RowOK.go (RowOK.of_seeA (hgΦ_ok i1) (m := 20) (j := 20) (f := 16) (p := keeps 16) (ts := [3, 8, 9, 10]) (F2 := hgF (itemsC l) l.length (Int.ofNat (k + 1))) (H2 := H') rfl (hdr3 _ _) ?_)) i2 (hgF_to _ (itemsC_gh l) _ _))
  have h := hg_rnd (hgG [ptr 0, .agg ⟨itemC l[k]⟩] (stH (runF (l.take k)) ++ [some ⟨itemC l[k], 37, none⟩])) (fun _ _ => H') (itemsC l) l.length k (hgB (stR (runF (l.take k))) (L1 (runF (l.take k)).ctrl) (sliV 1 (runF (l.take k)).ops.length 13) (sliV 2 (runF (l.take k)).ats.length 1)) (rowB (runF (l.take k)).ops.length (opsC (runF (l.take k)).ops) 32) (rowB (runF (l.take k)).ats.length ((runF (l.take k)).ats.map (Value.int .i64)) 3)
  have b1 : decide (Int.ofNat k < Int.ofNat l.length) = true := decide_eq_true (by simp; omega)
  have b2 : boxL (itemC l[k]) = itemC l[k] := rfl
  have b3 : List.take 6 (List.drop 0 (itemC l[k])) = itemC l[k] := rfl
  have b4 : (Nat.beq (itemC l[k]).length 6 && (itemC l[k]).all Ab.one) = true := rfl
  have b5 : Nat.ble 6 (itemC l[k]).length = true := rfl
  have b6 : hgG [ptr 0, .agg ⟨itemC l[k]⟩] (stH (runF (l.take k)) ++ [some ⟨itemC l[k], 37, none⟩]) 0 [ptr 0, .agg ⟨itemC l[k]⟩] (stH (runF (l.take k)) ++ [some ⟨itemC l[k], 37, none⟩]) = true := @decide_eq_true _ (Classical.propDecidable _) ⟨rfl, rfl, rfl⟩
  rw [c1, b2, b3, b4, b5, b1, Nat.ble_eq_true_of_le c2] at h
  unfold hRun at h
  have e2 : w64 (Int.ofNat k + 1) = Int.ofNat (k + 1) := w64_of (by simp; omega) (by simp; omega)
  rw [e2] at h
  refine h.trans ?_
  show (bif hgG _ _ 0 [ptr 0, .agg ⟨itemC l[k]⟩] (stH (runF (l.take k)) ++ [some ⟨itemC l[k], 37, none⟩]) then _ else none) = _
  rw [b6]; rfl
theorem hang_ok (l : List Item) (hl : l.length ≤ 1000000) : CallOK Try.prog 0 16 [gs 6 (itemsC l) l.length] [] (ptr 0) (stH (runF l)) := by
  obtain ⟨fn, h1, h2, h3, h4⟩ := fnOf fn16
  have hd : GoOK Try.prog 0 0 19 (hP 0 3) (enterF 0 [gs 6 (itemsC l) l.length]) [] .normal (hgF (itemsC l) l.length 0) (stH St.nil) :=
    GoOK.told (RowOK.go (RowOK.of_seeA hgT (m := 20) (j := 20) (f := 16) (p := keeps 16) (ts := [3, 8, 9, 10]) rfl (hdr1 _ _) (hg_head _ _ _ _)))
      ⟨⟨_, _, _, _, rfl, fun _ _ => To.nil_, To.nil_, .inl ⟨rfl, rfl⟩, .inl ⟨rfl, rfl⟩⟩⟩ (hgF_to _ (itemsC_gh l) _ _)
  have hend : GcOK Try.prog 0 0 19 hB (hgF (itemsC l) l.length (Int.ofNat l.length)) (stH (runF (l.take l.length))) (.exit 0) (hgF (itemsC l) l.length (Int.ofNat l.length)) (stH (runF l)) := by
    rw [List.take_length]
    refine GoOK.code (RowOK.go (RowOK.of_seeA hgT (m := 20) (j := 20) (f := 16) (p := keeps 16) (ts := [3, 8, 9, 10]) rfl (hdr3 _ _) ?_))
    have h := hg_rnd (fun _ _ _ => false) (fun _ H => H) (itemsC l) l.length l.length (hgB (stR (runF l)) (L1 (runF l).ctrl) (sliV 1 (runF l).ops.length 13) (sliV 2 (runF l).ats.length 1)) (rowB (runF l).ops.length (opsC (runF l).ops) 32) (rowB (runF l).ats.length ((runF l).ats.map (Value.int .i64)) 3)
    rw [show decide (Int.ofNat l.length < Int.ofNat l.length) = false from decide_eq_false (by simp), cond_false] at h
    exact h
  have lp := GcOK.loop (P := Try.prog) (lo := 0) (base := 0) (n := 19) (c := hB) (fun k => hgF (itemsC l) l.length (Int.ofNat k)) (fun k => stH (runF (l.take k))) l.length (e := .exit 0) (by intro h; cases h) (fun k hk => hang_round l hl k hk) hend
  have tl : GoOK Try.prog 0 0 19 (hP 4 2) (hgF (itemsC l) l.length (Int.ofNat l.length)) (stH (runF l)) .ret [(2, ptr 0)] (stH (runF l)) :=
    RowOK.go (RowOK.of_seeA hgT (m := 20) (j := 20) (f := 16) (p := keeps 16) (ts := [2]) rfl (hdr2 _ _) (hg_tail _ _ _ _ _ _))
  have blk := (GcOK.block (id := 0) lp).row
  have all := hd.app (GoOK.app blk tl)
  rw [← hg_flat] at all
  have := CallOK.of_go (hgT) (f := 16) (fn := fn) (c := bodyOf 16) (args := [gs 6 (itemsC l) l.length]) (l := [ptr 0]) (H := []) h1 h2 (by rw [h3]; simp) (by rw [h3]; exact GoOK.code all) (.inr rfl) (by rw [h4]; rfl)
  exact this
end Go.Proofs.Ytbcikaoklpekhaa.Ab
