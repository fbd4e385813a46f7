/- Lists of whole numbers: what slices.Clone, Sort and Compact answer, told for the run; values of lists; told blocks turned to what nobody writes any more. -/
import Derived.Test.YtbcikaoklpekhaaAbC
import Derived.Test.YtbcikaoklpekhaaAb16
import Derived.Test.YtbcikaoklpekhaaShelf
namespace Go.Proofs.Ytbcikaoklpekhaa.Ab
open Go Go.RowKit Go.Sort
set_option linter.unusedVariables false
set_option linter.unusedSimpArgs false
/-! ### Told in a larger heap -/
/-- A call that needs but some told blocks, and writes to nothing that was there. -/
theorem CallOK.lift {P : Program} {k f : Nat} {args : List Value} {Hs : Heap} {v : Value} {Hs' : Heap} (h : CallOK P k f args Hs v Hs') (hk : Hs.length = k) (hv : Gh v) {lo : Nat} {H : Heap} {args' : List Value} (sel : List Nat) (hsl : sel.length = Hs.length)
    (hb : ∀ (j : Nat) (b' : Blk), Hs[j]? = some (some b') → ∃ s b, sel[j]? = some s ∧ H[s]? = some (some b) ∧ b'.view = none ∧ b'.cells.length ≤ b.cells.length ∧ b'.cells = b.cells.take b'.cells.length ∧ ∀ x ∈ b'.cells, Gh x)
    (hs : ∀ s ∈ sel, s < H.length) (hnd : ∀ (i j s : Nat), sel[i]? = some s → sel[j]? = some s → i = j)
    (ha : ∀ (M : Mp) (us : List Value), M.pl.length = H.length → VRs M args' us → VRs (selM M sel) args us) : CallOK P lo f args' H v H := by
  intro M w rargs hR hva
  have hlen := hR.len
  have hR1 : Rel k (selM M sel) Hs w := by
    refine ⟨by simp [selM, hsl], fun i p e => ?_, fun i b' e => ?_, fun i p hi e => ?_, fun i j b1 b2 p q hij e1 e2 e3 e4 hl' => ?_, fun r o ys e => ⟨(hR.froz r o ys e).1, fun i p hi e' => ?_⟩⟩
    · obtain ⟨s, _, h2⟩ := selM_some e (fun s m => by rw [hlen]; exact hs s m)
      exact hR.dom s p h2
    · obtain ⟨s, b, h1, h2, h4, h5, h6, h7⟩ := hb i b' e
      obtain ⟨r, o, cs, t, fz, g1, g2, g3, g4, g5, g6⟩ := hR.blk s b h2
      refine ⟨r, o, cs, t, fz, by rw [selM_get h1 (by rw [hlen]; exact hs s (List.mem_of_getElem? h1))]; exact g1, g2, fun hi => ?_, by omega, ?_, fun p o' hv => by rw [h4] at hv; cases hv⟩
      · have := (List.getElem?_eq_some_iff.1 e).1; omega
      · have := g5.take b'.cells.length
        rw [← h6, List.take_take, Nat.min_eq_left h5] at this
        exact (Gh.vrs h7 this).le (Le.of_nil (M := selM M sel) fun _ _ _ h => h)
    · have := (List.getElem?_eq_some_iff.1 e).1
      simp [selM] at this; omega
    · have h1 := (List.getElem?_eq_some_iff.1 e1).1
      have h2 := (List.getElem?_eq_some_iff.1 e2).1
      omega
    · have := (List.getElem?_eq_some_iff.1 e').1
      simp [selM] at this; omega
  refine (h (selM M sel) w rargs hR1 (ha M rargs hlen hva)).mono fun e w' ⟨M', rv, he, hr, hx, hR', hK⟩ => ?_
  have hbl : Below w.heap.size w w' := hK.below (by simp [selM]; omega)
  have hR2 := hR.below hbl
  have hfz : ∀ r o ys, M'.fz r o ys → M.fz r o ys ∨ w.heap.size ≤ r := by
    intro r o ys e
    rcases hx.newfz r o ys e with h | h | ⟨j, q, h1, h2, _⟩
    · exact .inl h
    · exact .inr h
    · have := (List.getElem?_eq_some_iff.1 h2).1
      simp [selM] at this; omega
  have hle : Le M ⟨M.pl, M'.fz⟩ := ⟨fun _ _ h => h, fun r o ys e => hx.le.fz r o ys e⟩
  refine ⟨⟨M.pl, M'.fz⟩, rv, he, (hv _ _ hr).le (Le.of_nil (M := ⟨M.pl, M'.fz⟩) fun _ _ _ h => h), ⟨hle, fun i p hi e => ?_, fun r o ys e => ?_⟩, ⟨hR2.len, hR2.dom, fun i b e => ?_, hR2.own, hR2.inj, fun r o ys e => ?_⟩, Keep.of_below hbl⟩
  · have := (List.getElem?_eq_some_iff.1 e).1
    have : (⟨M.pl, M'.fz⟩ : Mp).pl.length = M.pl.length := rfl
    omega
  · rcases hfz r o ys e with h | h
    · exact .inl h
    · exact .inr (.inl h)
  · obtain ⟨r, s, cs, t, fz, g1, g2, g3, g4, g5, g6⟩ := hR2.blk i b e
    exact ⟨r, s, cs, t, fz, g1, g2, g3, g4, g5.le hle, g6⟩
  · rcases hfz r o ys e with h | h
    · exact hR2.froz r o ys h
    · refine ⟨(hR'.froz r o ys e).1, fun i p hi ep => ?_⟩
      have := hR.dom i p ep
      omega
/-! ### What was made turned to what nobody writes any more -/
/-- The answered slice of a block of its own, told by what it holds. -/
theorem CallOK.froz {P : Program} {k f : Nat} {args : List Value} {Hs H' : Heap} {i n z : Nat} {b : Blk} (h : CallOK P k f args Hs (.slice (some ⟨i, 0, none⟩) n z) H') (hk : Hs.length = k) (hki : k ≤ i) (hz : 0 < z) (hb : H'[i]? = some (some b)) (hl : n * z ≤ b.cells.length) (hg : ∀ x ∈ b.cells, Gh x) :
    CallOK P k f args Hs (gs z (b.cells.take (n * z)) n) Hs := by
  intro M w rargs hR ha
  have hpl : M.pl.length = k := by rw [hR.len, hk]
  refine (h M w rargs hR ha).mono fun e w' ⟨M', rv, he, hr, hx, hR', hK⟩ => ?_
  have hfz : ∀ r o ys, M'.fz r o ys → M.fz r o ys ∨ (w.heap.size ≤ r ∧ Froz w' r o ys) := fun r o ys e => by
    rcases hx.newfz r o ys e with h | h | ⟨j, q, h1, h, _⟩
    · exact .inl h
    · exact .inr ⟨h, (hR'.froz r o ys e).1⟩
    · have := (List.getElem?_eq_some_iff.1 h).1; omega
  have hbl : Below w.heap.size w w' := hK.below (by omega)
  have hR2 := hR.below hbl
  cases hr with
  | empt => omega
  | slice hM h1 h2 =>
    rename_i r s N c
    obtain ⟨r', s', cs, t, fz, g1, g2, g3, g4, g5, g6⟩ := hR'.blk i b hb
    rw [g1] at hM; cases hM
    have hnew : w.heap.size ≤ r := by
      rcases hx.new i _ (by omega) g1 with h | ⟨j, q, h1, h, _⟩
      · exact h
      · have := (List.getElem?_eq_some_iff.1 h).1; omega
    have hle : Le M ⟨M.pl, fun r' o' ys => M'.fz r' o' ys ∨ (r' = r ∧ o' = s ∧ ys = (cs.drop s).take b.cells.length)⟩ := ⟨fun _ _ h => h, fun r o ys e => .inl (hx.le.fz r o ys e)⟩
    have hcl : ((cs.drop s).take b.cells.length).length = b.cells.length := by simp; omega
    refine ⟨⟨M.pl, fun r' o' ys => M'.fz r' o' ys ∨ (r' = r ∧ o' = s ∧ ys = (cs.drop s).take b.cells.length)⟩, .slice (some ⟨r, s + 0, none⟩) n c, he, ?_, ⟨hle, fun j p hj e => ?_, ?_⟩, ⟨hR2.len, hR2.dom, fun j b e => ?_, hR2.own, hR2.inj, ?_⟩, hK⟩
    · refine .gsl (ys := (cs.drop s).take b.cells.length) (r := r) (o := s) (k := 0) (.inr ⟨rfl, rfl, rfl⟩) (by simp; omega) h1 (by simp; omega) ?_
      have := (Gh.vrs hg g5).take (n * z)
      rw [List.drop_zero]
      exact this.le (Le.of_nil (M := ⟨M.pl, fun r' o' ys => M'.fz r' o' ys ∨ (r' = r ∧ o' = s ∧ ys = (cs.drop s).take b.cells.length)⟩) fun _ _ _ h => Or.inl h)
    · have := (List.getElem?_eq_some_iff.1 e).1
      simp only at this; omega
    · rintro r' o' ys (e | ⟨rfl, rfl, rfl⟩)
      · rcases hfz r' o' ys e with h | h
        · exact .inl h
        · exact .inr (.inl h.1)
      · exact .inr (.inl hnew)
    · obtain ⟨r, s, cs, t, fz, g1, g2, g3, g4, g5, g6⟩ := hR2.blk j b e
      exact ⟨r, s, cs, t, fz, g1, g2, g3, g4, g5.le hle, g6⟩
    · rintro r' o' ys (e | ⟨rfl, rfl, rfl⟩)
      · rcases hfz r' o' ys e with h | h
        · exact hR2.froz r' o' ys h
        · exact ⟨h.2, fun j p hj ep => by have := hR.dom j p ep; omega⟩
      · exact ⟨⟨cs, t, fz, g2, by omega, by rw [hcl], by rw [(g3 hki).2]; exact Unfz.zero _ _⟩, fun j p hj ep => by have := hR.dom j p ep; omega⟩
theorem slice_inv {M : Mp} {i n z : Nat} {u : Value} (hz : 0 < z) (h : VR M (.slice (some ⟨i, 0, none⟩) n z) u) : ∃ r s N c, M.pl[i]? = some (r, s, N) ∧ n ≤ c ∧ s + c * z ≤ N ∧ u = .slice (some ⟨r, s, none⟩) n c := by
  generalize hg : (Value.slice (some ⟨i, 0, none⟩) n z) = g at h
  cases h <;> first | (cases hg; done) | skip
  case slice b o n' z' r s N c h1 h2 h3 =>
    simp only [Value.slice.injEq, Option.some.injEq, Addr.mk.injEq, and_true] at hg
    obtain ⟨⟨rfl, rfl⟩, rfl, rfl⟩ := hg
    exact ⟨r, s, N, c, h1, h2, by omega, rfl⟩
  case empt ad c =>
    simp only [Value.slice.injEq, Option.some.injEq, Addr.mk.injEq, and_true] at hg
    omega
/-! ### The library's calls -/
theorem clonePure (xs : List Int) (hx : xs.length ≤ 1048576) : PureOK Try.prog 28 [L1 xs] (L1 xs) := by
  intro Z w rargs hZ hv
  cases hv with | cons a b =>
  cases b
  have own : ∀ (n : Nat) (w' : World) (v' : Value), n = xs.length → w'.ownsRow w.heap.size 3 1 v' n (xs.map (Value.int .i64)) → Below w.heap.size w w' → ∃ (Z' : Nat → Nat → List Value → Prop), (∀ r o ys, Z r o ys → Z' r o ys) ∧ (∀ r o ys, Z' r o ys → Z r o ys ∨ (w.heap.size ≤ r ∧ Froz w' r o ys)) ∧ VR ⟨[], Z'⟩ (L1 xs) v' := by
    intro n w' v' hn ⟨h1, h2⟩ hb
    rcases h2 with ⟨rfl, rfl⟩ | ⟨g, cap, cur, rfl, h3, h4, h5, h6, h7, h8⟩
    · have : xs = [] := by cases xs with | nil => rfl | cons _ _ => simp at hn
      subst this
      exact ⟨Z, fun _ _ _ h => h, fun _ _ _ h => .inl h, .gnil 1⟩
    · refine ⟨fun r o ys => Z r o ys ∨ (r = g ∧ o = 0 ∧ ys = cur.toList), fun _ _ _ h => .inl h, ?_, ?_⟩
      · rintro r o ys (h | ⟨rfl, rfl, rfl⟩)
        · exact .inl h
        · exact .inr ⟨h3, cur.toList, _, _, by simpa using h4, by simp, by rw [List.drop_zero, List.take_length], Unfz.zero _ _⟩
      · subst hn
        have := VR.gsl (M := ⟨[], fun r o ys => Z r o ys ∨ (r = g ∧ o = 0 ∧ ys = cur.toList)⟩) (xs := xs.map (Value.int .i64)) (ys := cur.toList) (r := g) (o := 0) (k := 0) (n := xs.length) (c := cap) (z := 1) (.inr ⟨rfl, rfl, rfl⟩) (by simp [h7]; omega) h5 (by simp) (by rw [List.drop_zero, h8]; exact plains (fun v h => plain_VR h) (by simp [List.all_map, plain, plainN, List.all_eq_true]))
        simpa [L1] using this
  rcases gs_inv a with ⟨h1, h2, rfl⟩ | ⟨h1, h2, ad, c, rfl⟩ | ⟨ys, r, o, j, c, f1, f2, f3, f4, f5, rfl⟩
  · have : xs = [] := by simpa using h1
    subst this
    exact (Try.slices_Clone_int_nil 0 0 w).mono fun e w' ⟨e1, e2⟩ => ⟨Z, _, e1, by rw [e2]; exact Below.refl _ _, fun _ _ _ h => h, fun _ _ _ h => .inl h, .gnil 1⟩
  · have : xs = [] := by simpa using h1
    subst this
    exact (Try.slices_Clone_int_zero ad c w).mono fun e w' ⟨v', e1, e2, e3, e4⟩ => by
      obtain ⟨Z', a1, a2, a3⟩ := own 0 w' v' rfl (by simpa using e2) e4
      exact ⟨Z', v', e1, e4, a1, a2, a3⟩
  · have hf := hZ _ _ _ f1
    obtain ⟨cs, t, fz, g1, g2, g3, _⟩ := hf
    have hys : (ys.drop j).take (xs.length * 1) = xs.map (Value.int .i64) := (plains_eq (M := ⟨[], Z⟩) (p := plain) (fun v v' h k => plain_eq h k) (by simp [List.all_map, plain, plainN, List.all_eq_true]) f5)
    have hcell : ∀ i, i < xs.length → w.cell? ⟨r, o + j + i, none⟩ = some (.int .i64 (xs.getD i 0)) := by
      intro i hi
      have h1 : ((ys.drop j).take (xs.length * 1))[i]? = some (.int .i64 (xs.getD i 0)) := by
        rw [hys, List.getElem?_map, List.getD_eq_getElem?_getD, List.getElem?_eq_getElem hi]; rfl
      rw [List.getElem?_take_of_lt (by omega), List.getElem?_drop, ← g3, List.getElem?_take_of_lt (by omega), List.getElem?_drop] at h1
      simp only [World.cell?, g1]
      rw [← h1]; simp [Nat.add_assoc]
    refine (Try.slices_Clone_int r (o + j) xs.length c xs w (Nat.le_refl _) (by omega) hcell).mono fun e w' ⟨v', e1, e2, _, e4⟩ => ?_
    rw [List.take_length] at e2
    obtain ⟨Z', a1, a2, a3⟩ := own xs.length w' v' rfl e2 e4
    exact ⟨Z', v', e1, e4, a1, a2, a3⟩
/-- The told block laid anew, by a call that made memory beside. -/
theorem Rel.laid {lo : Nat} {M : Mp} {H : Heap} {w : World} (h : Rel lo M H w) {i : Nat} {zs zs' : List Int} {t : TypeId} {r : Nat} {cs : List Value} {n : Nat} {os : Array Obj} (hlo : lo ≤ i) (hb : H[i]? = some (some ⟨zs.map (Value.int .i64), t, none⟩)) (hM : M.pl[i]? = some (r, 0, cs.length))
    (hw : w.heap[r]? = some (.cells cs.toArray t (0, 0))) (hl : zs'.length = zs.length) (hc : zs.length ≤ cs.length) :
    Rel lo M (H.set i (some ⟨zs'.map (Value.int .i64), t, none⟩)) (Go.Sort.grow (putRow (Value.int .i64) (Sort.ahead w n) r 0 zs'.toArray) os) ∧ Keep lo M w (Go.Sort.grow (putRow (Value.int .i64) (Sort.ahead w n) r 0 zs'.toArray) os) := by
  have hrl : r < w.heap.size := h.dom i _ hM
  have h1 := h.write (b' := ⟨zs'.map (Value.int .i64), t, none⟩) (cs' := zs'.map (Value.int .i64) ++ cs.drop zs'.length) hlo hb hM hw (by simp; omega) rfl rfl (by simp) (by
    rw [List.take_left']
    · exact plains (fun v h => plain_VR h) (by simp [List.all_map, plain, plainN, List.all_eq_true])
    · simp)
  have hcells : putCells (Value.int .i64) 0 zs'.toArray cs.toArray = (zs'.map (Value.int .i64) ++ cs.drop zs'.length).toArray := by
    apply Array.ext_getElem?
    intro k
    simp only [putCells, Array.getElem?_mapIdx, List.getElem?_toArray, Nat.zero_le, true_and, List.size_toArray, Nat.zero_add, Nat.sub_zero]
    by_cases hk : k < zs'.length
    · rw [List.getElem?_append_left (by simpa using hk), List.getElem?_map, List.getElem?_eq_getElem hk, List.getElem?_eq_getElem (show k < cs.length by omega)]
      simp [hk]
    · rw [List.getElem?_append_right (by simp; omega), List.getElem?_drop]
      simp only [List.length_map, show zs'.length + (k - zs'.length) = k by omega]
      cases cs[k]? with
      | none => rfl
      | some x => simp [hk]
  have hb2 : Below (w.setRow r (zs'.map (Value.int .i64) ++ cs.drop zs'.length).toArray).heap.size (w.setRow r (zs'.map (Value.int .i64) ++ cs.drop zs'.length).toArray) (Go.Sort.grow (putRow (Value.int .i64) (Sort.ahead w n) r 0 zs'.toArray) os) := by
    refine ⟨rfl, rfl, rfl, by simp [Go.Sort.grow, Sort.ahead], fun k hk => ?_⟩
    have hk' : k < w.heap.size := by simpa using hk
    have e1 : (Go.Sort.grow (putRow (Value.int .i64) (Sort.ahead w n) r 0 zs'.toArray) os).heap[k]? = (putRow (Value.int .i64) (Sort.ahead w n) r 0 zs'.toArray).heap[k]? := by
      simp only [Go.Sort.grow]
      rw [Array.getElem?_append_left (by simpa [Sort.ahead] using hk')]
    rw [e1]
    simp only [putRow, mapBlock, Sort.ahead, Array.getElem?_modify]
    by_cases hkr : r = k
    · subst hkr
      rw [if_pos rfl, hw, setRow_heap w r _ _ _ _ hw]
      simp only [Option.map_some, onCells, hcells]
    · rw [if_neg hkr, setRow_other w r k _ (fun e => hkr e.symm)]
  exact ⟨h1.1.below hb2, ⟨rfl, rfl, rfl, by simp [Go.Sort.grow, Sort.ahead], fun k hk hne => by
    rw [hb2.block k (by simpa using hk), h1.2.block k hk hne]⟩⟩
theorem holds_of {w : World} {r : Nat} {zs : List Int} {cs : List Value} {t : TypeId} (hw : w.heap[r]? = some (.cells cs.toArray t (0, 0))) (hv : cs.take zs.length = zs.map (Value.int .i64)) : Holds (Value.int .i64) w r 0 zs.toArray := by
  intro j hj
  have hj' : j < zs.length := by simpa using hj
  refine ⟨?_, by simp [World.frozen?, hw]⟩
  have h1 : (cs.take zs.length)[j]? = some (.int .i64 zs[j]) := by rw [hv, List.getElem?_map, List.getElem?_eq_getElem hj']; rfl
  rw [List.getElem?_take_of_lt hj'] at h1
  simp only [World.cell?, hw, Nat.zero_add, List.getElem?_toArray, h1]
  simp [hj']
theorem sortCall {lo i : Nat} {zs : List Int} {t : TypeId} {H : Heap} (hlo : lo ≤ i) (hb : H[i]? = some (some ⟨zs.map (Value.int .i64), t, none⟩)) (hl : zs.length < 4611686018427387904) :
    CallOK Try.prog lo 40 [.slice (some ⟨i, 0, none⟩) zs.length 1] H (.tuple #[]) (H.set i (some ⟨(zs.mergeSort fun x y => decide (x ≤ y)).map (Value.int .i64), t, none⟩)) := by
  intro M w rargs hR hv
  cases hv with | cons a b =>
  cases b
  obtain ⟨r, cs, g1, g2, g3, g4⟩ := hR.at_ hlo hb
  simp only [List.length_map] at g3 g4
  have hcs : cs.take zs.length = zs.map (Value.int .i64) := plains_eq (p := plain) (fun v v' h k => plain_eq h k) (by simp [List.all_map, plain, plainN, List.all_eq_true]) g4
  obtain ⟨r', s', N', c, hM, h1, h2, rfl⟩ := slice_inv (by omega) a
  rw [g1] at hM; cases hM
  have hr := hR.dom i _ g1
  refine (Try.slices_Sort_int r 0 c zs w (holds_of g2 hcs) hr hl).mono fun e w' ⟨e1, n, os, e2⟩ => ?_
  obtain ⟨k1, k2⟩ := hR.laid (zs' := zs.mergeSort fun x y => decide (x ≤ y)) (n := n) (os := os) hlo hb g1 g2 (by simp) g3
  exact ⟨M, _, e1, .tuple .nil, Ext.refl _ _ _, by rw [e2]; exact k1, by rw [e2]; exact k2⟩
theorem compact_le (zs : List Int) : (Go.Lib.compact zs).length ≤ zs.length := by
  unfold Go.Lib.compact Go.Lib.compactUpTo
  rw [List.length_map]
  refine Nat.le_trans (List.length_filter_le _ _) (by simp)
theorem compactCall {lo i : Nat} {zs : List Int} {t : TypeId} {H : Heap} (hlo : lo ≤ i) (hb : H[i]? = some (some ⟨zs.map (Value.int .i64), t, none⟩)) (hl : zs.length < 4611686018427387904) :
    CallOK Try.prog lo 41 [.slice (some ⟨i, 0, none⟩) zs.length 1] H (.slice (some ⟨i, 0, none⟩) (Go.Lib.compact zs).length 1) (H.set i (some ⟨(Go.Lib.compact zs ++ List.replicate (zs.length - (Go.Lib.compact zs).length) 0).map (Value.int .i64), t, none⟩)) := by
  intro M w rargs hR hv
  cases hv with | cons a b =>
  cases b
  obtain ⟨r, cs, g1, g2, g3, g4⟩ := hR.at_ hlo hb
  simp only [List.length_map] at g3 g4
  have hcs : cs.take zs.length = zs.map (Value.int .i64) := plains_eq (p := plain) (fun v v' h k => plain_eq h k) (by simp [List.all_map, plain, plainN, List.all_eq_true]) g4
  have hle := compact_le zs
  obtain ⟨r', s', N', c, hM, h1, h2, rfl⟩ := slice_inv (by omega) a
  rw [g1] at hM; cases hM
  have hr := hR.dom i _ g1
  refine (Try.slices_Compact_int r 0 c zs w (holds_of g2 hcs) (by omega) h1).mono fun e w' ⟨e1, n, e2⟩ => ?_
  obtain ⟨k1, k2⟩ := hR.laid (zs' := Go.Lib.compact zs ++ List.replicate (zs.length - (Go.Lib.compact zs).length) 0) (n := n) (os := #[]) hlo hb g1 g2 (by simp; omega) g3
  rw [Go.Sort.grow_empty] at k1 k2
  exact ⟨M, _, e1, VR.slice (o := 0) (s := 0) (c := c) (z := 1) g1 (by omega) (by omega), Ext.refl _ _ _, by rw [e2]; exact k1, by rw [e2]; exact k2⟩
theorem sortNil {lo : Nat} {H : Heap} : CallOK Try.prog lo 40 [.slice none 0 0] H (.tuple #[]) H := by
  intro M w rargs hR hv
  cases hv with | cons a b =>
  cases b
  cases a
  exact (Try.slices_Sort_int_none none 0 w).mono fun e w' ⟨e1, e2⟩ => ⟨M, _, e1, .tuple .nil, Ext.refl _ _ _, by rw [e2]; exact hR, by rw [e2]; exact Keep.refl _ _ _⟩
theorem compactNil {lo : Nat} {H : Heap} : CallOK Try.prog lo 41 [.slice none 0 0] H (.slice none 0 0) H := by
  intro M w rargs hR hv
  cases hv with | cons a b =>
  cases b
  cases a
  exact (Try.slices_Compact_int_empty none 0 w).mono fun e w' ⟨e1, e2⟩ => ⟨M, _, e1, .nils, Ext.refl _ _ _, by rw [e2]; exact hR, by rw [e2]; exact Keep.refl _ _ _⟩
theorem growNil0 {lo : Nat} {H : Heap} : CallOK Try.prog lo 50 [.slice none 0 0, .int .i64 0] H (.slice none 0 0) H := by
  intro M w rargs hR hv
  cases hv with | cons a b =>
  cases b with | cons b c =>
  cases c; cases a; cases b
  exact (Try.slices_Grow_room none 0 0 0 w (Nat.le_refl _) (by decide) (by decide) (Nat.le_refl _)).mono fun e w' ⟨e1, e2⟩ => ⟨M, _, e1, .nils, Ext.refl _ _ _, by rw [e2]; exact hR, by rw [e2]; exact Keep.refl _ _ _⟩
theorem growNil {lo : Nat} {H : Heap} {x : Int} (h0 : 0 < x) (h1 : x ≤ 1073741824) : CallOK Try.prog lo 50 [.slice none 0 0, .int .i64 x] H (.slice (some ⟨H.length, 0, none⟩) 0 1) (H ++ [some ⟨[], 3, none⟩]) := by
  intro M w rargs hR hv
  obtain ⟨n, rfl⟩ : ∃ n : Nat, x = n := ⟨x.toNat, by omega⟩
  have hn : n ≤ 1073741824 := by omega
  cases hv with | cons a b =>
  cases b with | cons b c =>
  cases c; cases a; cases b
  have ht : tab 3 = some { d := TD.int .i64, size := 1, bytes := 8, zero := Value.int IntKind.i64 0 } := rfl
  obtain ⟨info, d, k1, k2, k3, k4, k5, k6, k7⟩ := tabOK.get ht
  simp only at k4 k5 k6
  refine (Try.slices_Grow_nil info _ k1 k6 (by omega) n w (by omega) (by rw [k5]; omega) (by omega)).mono fun e w' ⟨e1, e2⟩ => ?_
  have hR1 := hR.drew (w.drawn + 1)
  obtain ⟨r1, r2, r3⟩ := hR1.new (b := ⟨[], 3, none⟩) (cs := (([] : List Value).toArray ++ Builtin.zeroCells (Value.int IntKind.i64 0).cells (0 + n - 0) ++ Builtin.zeroCells (Value.int IntKind.i64 0).cells (grownCap w (0 + n) 0 3 - (0 + n))).toList) (by simp) (by simpa using VRs.nil) rfl
  have hge := grownCap_ge w (0 + n) 0 3
  subst e2
  refine ⟨_, _, e1, VR.slice (o := 0) (s := 0) (c := grownCap w (0 + n) 0 3) (z := 1) (Mp.add_get hR.len) (by omega) ?_, ⟨r2.le, r2.new, r2.newfz⟩, r1, Keep.trans (Keep.drew _) (Ext.refl _ _ _) r3⟩
  simp only [Array.length_toList, Array.size_append, zeroCells_length]
  simp [Value.cells]; omega
end Go.Proofs.Ytbcikaoklpekhaa.Ab
