/- Several texts as one: DepGrowsLaw, DepGrowsTail, DepGrowsMid, DepGrowsRuns1, DepGrowsE, DepGrowsLoop, DepGrowsLoop2, DepGrowsMid2, DepGrowsMid3, DepGrows. -/
import Derived.Test.YtbcikaoklpekhaaDepHang
import Derived.Test.YtbcikaoklpekhaaDepGrowsRuns2
namespace Go.Proofs.Ytbcikaoklpekhaa.Ab
open Go Go.RowKit
set_option linter.unusedVariables false
set_option linter.unusedSimpArgs false
theorem item_more (s : St) (x : Item) : ∃ t, (itemF s x).ops = s.ops ++ t := by
  unfold itemF
  cases (x.trap || !(dec x.word).2) with
  | true => exact ⟨[], by simp⟩
  | false =>
    show ∃ t, (takeOp s (dec x.word).1 (opOf (dec x.word).1 x)).ops = s.ops ++ t
    unfold takeOp
    cases (opOf (dec x.word).1 x).2 with
    | true => exact ⟨_, rfl⟩
    | false => exact ⟨[], by simp⟩
theorem fold_more : ∀ (l : List Item) (s : St), ∃ t, (l.foldl itemF s).ops = s.ops ++ t
  | [], s => ⟨[], by simp⟩
  | x :: l, s => by
    obtain ⟨t1, h1⟩ := item_more s x
    obtain ⟨t2, h2⟩ := fold_more l (itemF s x)
    exact ⟨t1 ++ t2, by rw [List.foldl_cons, h2, h1, List.append_assoc]⟩
theorem run_take (l : List Item) (k : Nat) : (runF (l.take k)).ops = (runF l).ops.take (runF (l.take k)).ops.length ∧ (runF (l.take k)).ops.length ≤ (runF l).ops.length := by
  obtain ⟨t, h⟩ := fold_more (l.drop k) (runF (l.take k))
  have e : (runF l).ops = (runF (l.take k)).ops ++ t := by
    rw [← h]
    unfold runF
    rw [← List.foldl_append, List.take_append_drop]
  rw [e]
  exact ⟨by simp, by simp⟩
/-- A number that names an operation that is no fence. -/
def Good (ops : List OpR) (x : Int) : Prop := 0 ≤ x ∧ ∃ r, ops[x.toNat]? = some r ∧ r.q.kind ≠ 4
theorem Good.more {ops t : List OpR} {x : Int} (h : Good ops x) : Good (ops ++ t) x := by
  obtain ⟨h0, r, h1, h2⟩ := h
  exact ⟨h0, r, by rw [List.getElem?_append_left (List.getElem?_eq_some_iff.1 h1).1]; exact h1, h2⟩
structure Inv2 (s : St) : Prop where
  R : ∀ i x, x ∈ s.R i → Good s.ops x
  ctrl : ∀ x, x ∈ s.ctrl → Good s.ops x
  at_ : ∀ i r, s.ops[i]? = some r → (∀ x, x ∈ r.addr ∨ x ∈ r.data ∨ x ∈ r.ctrl → x < Int.ofNat i ∧ Good s.ops x) ∧ r.addr.length ≤ i ∧ r.data.length ≤ i ∧ r.ctrl.length ≤ i
theorem Inv2.nil_ : Inv2 St.nil := ⟨fun _ _ h => (by cases h), fun _ h => (by cases h), fun i r h => by simp [St.nil] at h⟩
theorem kind_no {i : Inst} {x : Item} (h : kindF i.op = 4 ∨ kindF i.op = 6) : (opOf i x).1.kind ≠ 4 := by
  unfold opOf opF
  rcases h with h | h
  · rw [if_pos h]; exact (by decide : (1 : Int) ≠ 4)
  · rw [if_neg (by rw [h]; decide), if_neg (by rw [h]; decide), if_pos h]
    split
    · exact (by decide : (2 : Int) ≠ 4)
    · exact (by decide : (3 : Int) ≠ 4)
theorem inv2_item {s : St} (h1 : Inv s) (h : Inv2 s) (x : Item) : Inv2 (itemF s x) := by
  unfold itemF
  cases hb : (x.trap || !(dec x.word).2) with
  | true => exact ⟨h.R, h.ctrl, h.at_⟩
  | false =>
    rw [cond_false]
    generalize (dec x.word).1 = i
    obtain ⟨t, ht⟩ : ∃ t, (takeOp s i (opOf i x)).ops = s.ops ++ t := by
      unfold takeOp
      cases (opOf i x).2 with
      | true => exact ⟨_, rfl⟩
      | false => exact ⟨[], by simp⟩
    have up : ∀ y, Good s.ops y → Good (takeOp s i (opOf i x)).ops y := fun y hy => by rw [ht]; exact hy.more
    refine ⟨fun j y hy => ?_, fun y hy => ?_, fun k r hr => ?_⟩
    · show Good (takeOp s i (opOf i x)).ops y
      simp only [instF] at hy
      cases hr : (rdF i.op && !(i.rd == 0)) with
      | false => rw [hr, cond_false] at hy; exact up y (h.R j y hy)
      | true =>
        rw [hr, cond_true] at hy
        unfold upd at hy
        by_cases hj : j = i.rd.toNat
        · rw [if_pos hj] at hy
          unfold takeReg at hy
          cases h1' : kindF i.op == 1 && (i.op != 1 && i.op != 2) with
          | true =>
            rw [h1', cond_true, jn_mem] at hy
            rcases List.mem_append.1 hy with hy | hy
            · exact up y (h.R _ y hy)
            · exact up y (h.R _ y hy)
          | false =>
            rw [h1', cond_false] at hy
            cases h46 : kindF i.op == 4 || kindF i.op == 6 with
            | false => rw [h46, cond_false] at hy; cases hy
            | true =>
              rw [h46, cond_true] at hy
              unfold mineL at hy
              cases ho : (opOf i x).2 with
              | false => rw [ho, cond_false] at hy; cases hy
              | true =>
                rw [ho, cond_true, List.mem_singleton] at hy
                subst hy
                refine ⟨by simp, newOp s i (opOf i x).1, ?_, ?_⟩
                · unfold takeOp
                  rw [ho, cond_true]
                  show (s.ops ++ [newOp s i (opOf i x).1])[(Int.ofNat s.ops.length).toNat]? = _
                  rw [show (Int.ofNat s.ops.length).toNat = s.ops.length from rfl, List.getElem?_append_right (Nat.le_refl _), Nat.sub_self]; rfl
                · show (opOf i x).1.kind ≠ 4
                  simp only [Bool.or_eq_true, beq_iff_eq] at h46
                  exact kind_no h46
        · rw [if_neg hj] at hy; exact up y (h.R j y hy)
    · show Good (takeOp s i (opOf i x)).ops y
      change y ∈ takeCtrl s i at hy
      unfold takeCtrl at hy
      cases h3 : kindF i.op == 3 || i.op == 4 with
      | true =>
        rw [h3, cond_true, jn_mem, List.append_assoc] at hy
        rcases List.mem_append.1 hy with hy | hy
        · exact up y (h.ctrl y hy)
        · rcases List.mem_append.1 hy with hy | hy
          · exact up y (h.R _ y hy)
          · exact up y (h.R _ y hy)
      | false => rw [h3, cond_false] at hy; exact up y (h.ctrl y hy)
    · change (takeOp s i (opOf i x)).ops[k]? = some r at hr
      show (∀ y, y ∈ r.addr ∨ y ∈ r.data ∨ y ∈ r.ctrl → y < Int.ofNat k ∧ Good (takeOp s i (opOf i x)).ops y) ∧ _
      by_cases hk : k < s.ops.length
      · rw [ht, List.getElem?_append_left hk] at hr
        obtain ⟨g1, g2⟩ := h.at_ k r hr
        exact ⟨fun y hy => ⟨(g1 y hy).1, up y (g1 y hy).2⟩, g2⟩
      · unfold takeOp at hr
        cases ho : (opOf i x).2 with
        | false =>
          rw [ho, cond_false] at hr
          have := (List.getElem?_eq_some_iff.1 hr).1
          exact absurd this hk
        | true =>
          rw [ho, cond_true] at hr
          have hkl := (List.getElem?_eq_some_iff.1 hr).1
          simp only [List.length_append, List.length_cons, List.length_nil] at hkl
          have hks : k = s.ops.length := by omega
          subst hks
          rw [List.getElem?_append_right (Nat.le_refl _), Nat.sub_self] at hr
          simp only [List.getElem?_cons_zero, Option.some.injEq] at hr
          subst hr
          have lt : ∀ y, Good s.ops y → y < Int.ofNat s.ops.length := fun y ⟨h0, r', hr', _⟩ => by
            have := (List.getElem?_eq_some_iff.1 hr').1
            simp; omega
          have all : ∀ y, y ∈ (newOp s i (opOf i x).1).addr ∨ y ∈ (newOp s i (opOf i x).1).data ∨ y ∈ (newOp s i (opOf i x).1).ctrl → Good s.ops y := fun y hy => by
            unfold newOp at hy
            rcases hy with hy | hy | hy
            · simp only at hy
              cases hq : ((opOf i x).1.kind != 4) with
              | true => rw [hq, cond_true] at hy; exact h.R _ y hy
              | false => rw [hq, cond_false] at hy; cases hy
            · simp only at hy
              cases hq : (kindF i.op == 5 || kindF i.op == 6) with
              | true => rw [hq, cond_true] at hy; exact h.R _ y hy
              | false => rw [hq, cond_false] at hy; cases hy
            · exact h.ctrl y hy
          refine ⟨fun y hy => ⟨lt y (all y hy), up y (all y hy)⟩, ?_, ?_, ?_⟩
          · unfold newOp; simp only
            cases ((opOf i x).1.kind != 4) with
            | true => exact (h1.R _).len
            | false => exact Nat.zero_le _
          · unfold newOp; simp only
            cases (kindF i.op == 5 || kindF i.op == 6) with
            | true => exact (h1.R _).len
            | false => exact Nat.zero_le _
          · exact h1.ctrl.len
theorem inv2_fold (l : List Item) : ∀ (s : St), Inv s → Inv2 s → Inv2 (l.foldl itemF s) := by
  induction l with
  | nil => intro s _ h; exact h
  | cons x l ih => intro s h1 h; exact ih _ (inv_item h1 x).1 (inv2_item h1 h x)
theorem inv2_run (l : List Item) : Inv2 (runF l) := inv2_fold l St.nil Inv.nil_ Inv2.nil_
end Go.Proofs.Ytbcikaoklpekhaa.Ab
namespace Go.Proofs.Ytbcikaoklpekhaa.Ab
open Go Go.RowKit
set_option linter.unusedVariables false
set_option linter.unusedSimpArgs false
set_option maxRecDepth 100000
/-- What a call makes of what is told. -/
noncomputable def isCall (lo f : Nat) (args : List Value) (H : Heap) (v : Value) (H' : Heap) : Bool := @decide (CallOK Try.prog lo f args H v H') (Classical.propDecidable _)
theorem isCall_of {lo f : Nat} {args : List Value} {H : Heap} {v : Value} {H' : Heap} (h : CallOK Try.prog lo f args H v H') : isCall lo f args H v H' = true := @decide_eq_true _ (Classical.propDecidable _) h
theorem isCall_spec {lo f : Nat} {args : List Value} {H : Heap} {v : Value} {H' : Heap} (h : true = isCall lo f args H v H') : CallOK Try.prog lo f args H v H' := @of_decide_eq_true _ (Classical.propDecidable _) h.symm
noncomputable def gw9 (V : Value) (K9 : Heap) (lo : Nat) (xs : List Value) (n : Nat) (H : Heap) : Bool := isCall lo 9 [gs 6 xs n] H V (H ++ K9)
noncomputable def gw10 (a b : Value) : Bool := isPure 10 [a, b] (.bool true)
noncomputable def gw11 (a : Value) : Bool := isPure 11 [a] a
noncomputable def gw12 (lo : Nat) (a : Value) (H : Heap) : Bool := isCall lo 12 [a] H (.slice (some ⟨H.length, 0, none⟩) (lenOf a).toNat 1) (H ++ [some ⟨(unL a).map (Value.int .i64), 3, none⟩])
theorem gwΦ_ok (V : Value) (K9 : Heap) : CtxOK Try.prog (ctx (gwΦ numF lwG8 (gw9 V K9) V K9 gw10 gw11 gw12)) := ctxOK fun lo f args H l v H' h hm => by
  unfold gwΦ at h
  split at h
  · split at h
    · cases h
      simp only [List.mem_cons, List.not_mem_nil, or_false, Prod.mk.injEq] at hm
      obtain ⟨_, rfl, rfl⟩ := hm
      exact ⟨firstOK.call (fun a ha => by cases ha) lo H', rfl⟩
    · cases h
  · split at h
    · cases h
      simp only [List.mem_cons, List.not_mem_nil, or_false, Prod.mk.injEq] at hm
      obtain ⟨h1, rfl, rfl⟩ := hm
      exact ⟨(numberOK _ _ (of_decide_eq_true h1.symm)).call (plains_gh rfl) lo H', rfl⟩
    · cases h
  · split at h
    · cases h
      simp only [List.mem_cons, List.not_mem_nil, or_false, Prod.mk.injEq] at hm
      obtain ⟨h1, rfl, rfl⟩ := hm
      exact ⟨isCall_spec h1, rfl⟩
    · cases h
  · split at h
    · cases h
      simp only [List.mem_cons, List.not_mem_nil, or_false, Prod.mk.injEq] at hm
      obtain ⟨h1, rfl, rfl⟩ := hm
      exact ⟨isPure_call h1 lo H', rfl⟩
    · cases h
  · split at h
    · cases h
      simp only [List.mem_cons, List.not_mem_nil, or_false, Prod.mk.injEq] at hm
      obtain ⟨h1, rfl, rfl⟩ := hm
      exact ⟨isPure_call h1 lo H', rfl⟩
    · cases h
  · split at h
    · cases h
      simp only [List.mem_cons, List.not_mem_nil, or_false, Prod.mk.injEq] at hm
      obtain ⟨h1, rfl, rfl⟩ := hm
      exact ⟨isCall_spec h1, rfl⟩
    · cases h
  · cases h
theorem gw12_of {xs : List Int} (h : xs.length ≤ 1048576) : gw12 0 (L1 xs) [] = true := by
  have := ints_call xs h
  rw [List.take_length] at this
  unfold gw12
  rw [unL_L1]
  exact isCall_of this
/-! ### The last loops -/
theorem opsC_drop {ops : List OpR} {k : Nat} {r : OpR} (h : ops[k]? = some r) : (opsC ops).drop (k * 13) = r.cells ++ opsC (ops.drop (k + 1)) := by
  have hk : k < ops.length := (List.getElem?_eq_some_iff.1 h).1
  have hr : ops[k] = r := (List.getElem?_eq_some_iff.1 h).2
  unfold opsC
  rw [flat_drop (f := OpR.cells) (fun x => rfl), List.drop_eq_getElem_cons hk, hr, List.flatMap_cons]
theorem gV_eq {ops : List OpR} {k : Nat} {r : OpR} (h : ops[k]? = some r) : gV (opsC ops) k 10 = L1 r.addr ∧ gV (opsC ops) k 11 = L1 r.data ∧ gV (opsC ops) k 12 = L1 r.ctrl := by
  unfold gV
  rw [opsC_drop h]
  exact ⟨rfl, rfl, rfl⟩
theorem gG_eq {ops : List OpR} {k f : Nat} {r : OpR} (h : ops[k]? = some r) (hf : f < 13) (hg : isGs (gV (opsC ops) k f) = true) (z : Res) : gG (opsC ops) ops.length k f z = z := by
  have hk : k < ops.length := (List.getElem?_eq_some_iff.1 h).1
  unfold gG
  rw [hg, opsC_drop h, decide_eq_true (show Int.ofNat k < Int.ofNat ops.length by simp; omega)]
  have hl : (r.cells ++ opsC (ops.drop (k + 1))).length = 13 + (opsC (ops.drop (k + 1))).length := by rw [List.length_append]; rfl
  have b1 : Nat.ble f (r.cells ++ opsC (ops.drop (k + 1))).length = true := Nat.ble_eq_true_of_le (by rw [hl]; omega)
  have b2 : Nat.blt 0 (List.drop f (r.cells ++ opsC (ops.drop (k + 1)))).length = true := by rw [Nat.blt_eq, List.length_drop, hl]; omega
  rw [b1, b2]; rfl
theorem moreN_of {X : List Value} {y : List Int} {m : Nat} (hX : X.length = m) (hm : m ≤ 1000) (hy : y.length ≤ 1000) : moreN X (csOf (L1 y)) m (nOf (L1 y)) = true := by
  show moreN X (y.map (Value.int .i64)) m y.length = true
  simp only [moreN, Bool.and_eq_true]
  exact ⟨by rw [hX, Nat.mul_one]; exact Nat.beq_refl m, by simp only [List.all_map, List.all_eq_true]; exact fun v _ => rfl, Nat.ble_eq_true_of_le (by omega), Nat.ble_eq_true_of_le (by omega)⟩
theorem kdV_eq {ops : List OpR} {x : Int} {r : OpR} (h : ops[x.toNat]? = some r) : kdV (opsC ops) x = .int .i64 r.q.kind ∧ Nat.blt 0 (List.drop 0 (List.drop (x.toNat * 13) (opsC ops))).length = true := by
  unfold kdV
  rw [opsC_drop h]
  exact ⟨rfl, by rw [Nat.blt_eq, List.drop_zero, List.length_append]; show 0 < 13 + _; omega⟩
abbrev G3 (l : List Code) (F : Fr) (H : Heap) (e : Exit) (F' : Fr) (H' : Heap) : Prop := GoOK Try.prog 0 0 158 l F H e F' H'
theorem OKg : CtxOK Try.prog (ctx (gwΦ numF lwG8 (gw9 nilV []) nilV [] gw10 gw11 gw12)) := gwΦ_ok nilV []
theorem gw_inner (ops : List OpR) (i : Nat) (d : List Int) (hn : ops.length ≤ 1000) (hd : d.length ≤ 3000) (hg : ∀ x ∈ d, x < Int.ofNat i ∧ Good ops x) (k : Nat) (hk : k < d.length) :
    GcOK Try.prog 0 0 158 gwD (gwY (opsC ops) ops.length (Int.ofNat i) (L1 d) (Int.ofNat k)) [] .normal (gwY (opsC ops) ops.length (Int.ofNat i) (L1 d) (Int.ofNat (k + 1))) [] := by
  have hx : d.getD k 0 ∈ d := by
    rw [List.getD_eq_getElem?_getD, List.getElem?_eq_getElem hk]; exact List.getElem_mem hk
  obtain ⟨h1, h0, r, hr, hkind⟩ := hg _ hx
  obtain ⟨k1, k2⟩ := kdV_eq hr
  have hrl := (List.getElem?_eq_some_iff.1 hr).1
  have a1 := gw_D1 numF lwG8 (gw9 nilV []) nilV [] gw10 gw11 gw12 (opsC ops) ops.length k (Int.ofNat i) d
  rw [decide_eq_true (show Int.ofNat k < Int.ofNat d.length by simp; omega), cond_true] at a1
  have r1 : G3 ((flat gwD).take 2) _ [] .normal _ [] := RowOK.go (RowOK.of_seeA OKg (m := 20) (j := 20) (f := 3) (p := keeps 3) (ts := [6, 12, 13, 14]) rfl (gw_drD1 _ _ _ _ _ _ _ _) a1)
  have a2 := gw_E numF lwG8 (gw9 nilV []) nilV [] gw10 gw11 gw12 (opsC ops) ops.length i k d
  rw [ldG_eq hk, ldG_eq hk, ldG_eq hk, ldI_eq hk] at a2
  have e1 : toInt (Value.int .i64 (d.getD k 0)) = d.getD k 0 := rfl
  rw [e1, k1, k2, decide_eq_false (show ¬ d.getD k 0 < 0 by omega), decide_eq_false (show ¬ d.getD k 0 ≥ Int.ofNat i by omega), decide_eq_true h0, decide_eq_true (show d.getD k 0 < Int.ofNat ops.length by show d.getD k 0 < (ops.length : Int); omega)] at a2
  have e2 : (toInt (Value.int .i64 r.q.kind) == 4) = false := beq_eq_false_iff_ne.2 hkind
  rw [e2] at a2
  have r2 : G3 (flat gwE) (gwY (opsC ops) ops.length (Int.ofNat i) (L1 d) (Int.ofNat k)) [] .normal (gwY (opsC ops) ops.length (Int.ofNat i) (L1 d) (Int.ofNat k)) [] := RowOK.go (RowOK.of_seeA OKg (m := 20) (j := 20) (f := 3) (p := keeps 3) (ts := [6, 12, 13, 14]) rfl (gw_drE _ _ _ _ _ _ _ _) a2)
  have a3 := gw_D3 numF lwG8 (gw9 nilV []) nilV [] gw10 gw11 gw12 (opsC ops) ops.length k (Int.ofNat i) d
  rw [w64_of (by simp; omega) (by simp; omega)] at a3
  have r3 : G3 ((flat gwD).drop 3) (gwY (opsC ops) ops.length (Int.ofNat i) (L1 d) (Int.ofNat k)) [] .normal (gwY (opsC ops) ops.length (Int.ofNat i) (L1 d) (Int.ofNat (k + 1))) [] := RowOK.go (RowOK.of_seeA OKg (m := 20) (j := 20) (f := 3) (p := keeps 3) (ts := [6, 12, 13, 14]) rfl (gw_drD3 _ _ _ _ _ _ _ _) a3)
  have all := r1.app (GoOK.app ((GcOK.block (id := 9) (GoOK.code r2)).row) r3)
  rw [← gwD_flat] at all
  exact GoOK.code all
theorem gw_innerEnd (cs : List Value) (n : Nat) (i : Int) (d : List Int) : GcOK Try.prog 0 0 158 gwD (gwY cs n i (L1 d) (Int.ofNat d.length)) [] (.exit 8) (gwY cs n i (L1 d) (Int.ofNat d.length)) [] := by
  have a1 := gw_D1 numF lwG8 (gw9 nilV []) nilV [] gw10 gw11 gw12 cs n d.length i d
  rw [decide_eq_false (show ¬ Int.ofNat d.length < Int.ofNat d.length by simp), cond_false] at a1
  have r1 : G3 ((flat gwD).take 2) _ [] (.exit 8) _ [] := RowOK.go (RowOK.of_seeA OKg (m := 20) (j := 20) (f := 3) (p := keeps 3) (ts := [6, 12, 13, 14]) rfl (gw_drD1 _ _ _ _ _ _ _ _) a1)
  have all := r1.left (by intro h; cases h) ([.block 9 gwE] ++ (flat gwD).drop 3)
  rw [← gwD_flat] at all
  exact GoOK.code all
theorem gw_outer (ops : List OpR) (hn : ops.length ≤ 400) (hat : ∀ i r, ops[i]? = some r → (∀ x, x ∈ r.addr ∨ x ∈ r.data ∨ x ∈ r.ctrl → x < Int.ofNat i ∧ Good ops x) ∧ r.addr.length ≤ i ∧ r.data.length ≤ i ∧ r.ctrl.length ≤ i) (i : Nat) (hi : i < ops.length) :
    GcOK Try.prog 0 0 158 gwM (gwU (opsC ops) ops.length (Int.ofNat i)) [] .normal (gwU (opsC ops) ops.length (Int.ofNat (i + 1))) [] := by
  have hr : ops[i]? = some ops[i] := List.getElem?_eq_getElem hi
  generalize ops[i] = r at hr
  obtain ⟨g1, g2, g3, g4⟩ := hat i r hr
  obtain ⟨v1, v2, v3⟩ := gV_eq hr
  have a1 := gw_M1 numF lwG8 (gw9 nilV []) nilV [] gw10 gw11 gw12 (opsC ops) ops.length i
  rw [decide_eq_true (show Int.ofNat i < Int.ofNat ops.length by simp; omega), cond_true] at a1
  have r1 : G3 ((flat gwM).take 2) _ [] .normal _ [] := RowOK.go (RowOK.of_seeA OKg (m := 20) (j := 20) (f := 3) (p := keeps 3) (ts := [6, 12]) rfl (gw_drM1 _ _ _ _ _ _ _ _) a1)
  have a2 := gw_N1 numF lwG8 (gw9 nilV []) nilV [] gw10 gw11 gw12 (opsC ops) ops.length i
  rw [gG_eq hr (by omega) (by rw [v1]; rfl), gG_eq hr (by omega) (by rw [v2]; rfl), gG_eq hr (by omega) (by rw [v3]; rfl), v1, v2, v3] at a2
  have e0 : gs (zOf (L1 r.addr)) (csOf (L1 r.addr)) (nOf (L1 r.addr)) = L1 r.addr := rfl
  have e1 : ints (csOf (L1 r.addr)) = r.addr := ints_map _
  rw [e0, e1, gw12_of (by omega)] at a2
  have b1 : (Nat.beq (zOf (L1 r.data)) 1 && moreN (r.addr.map (Value.int .i64)) (csOf (L1 r.data)) (nOf (L1 r.addr)) (nOf (L1 r.data))) = true := by
    rw [moreN_of (m := nOf (L1 r.addr)) (by simp; rfl) (show r.addr.length ≤ 1000 by omega) (by omega)]; rfl
  have b2 : (Nat.beq (zOf (L1 r.ctrl)) 1 && moreN (r.addr.map (Value.int .i64) ++ csOf (L1 r.data)) (csOf (L1 r.ctrl)) (nOf (L1 r.addr) + nOf (L1 r.data)) (nOf (L1 r.ctrl))) = true := by
    rw [moreN_of (m := nOf (L1 r.addr) + nOf (L1 r.data)) (by show (r.addr.map (Value.int .i64) ++ r.data.map (Value.int .i64)).length = r.addr.length + r.data.length; simp) (show r.addr.length + r.data.length ≤ 1000 by omega) (by omega)]; rfl
  rw [b1, b2] at a2
  have e3 : r.addr.map (Value.int .i64) ++ csOf (L1 r.data) ++ csOf (L1 r.ctrl) = (r.addr ++ r.data ++ r.ctrl).map (Value.int .i64) := by
    show r.addr.map (Value.int .i64) ++ r.data.map (Value.int .i64) ++ r.ctrl.map (Value.int .i64) = _
    rw [List.map_append, List.map_append]
  have e4 : nOf (L1 r.addr) + nOf (L1 r.data) + nOf (L1 r.ctrl) = (r.addr ++ r.data ++ r.ctrl).length := by
    show r.addr.length + r.data.length + r.ctrl.length = _
    simp [Nat.add_assoc]
  rw [e3, e4] at a2
  simp only [cond_true] at a2
  generalize hd : r.addr ++ r.data ++ r.ctrl = d at a2 e3 e4
  have hdl : d.length ≤ 3000 := by rw [← hd]; simp; omega
  have hdg : ∀ x ∈ d, x < Int.ofNat i ∧ Good ops x := fun x hx => by
    rw [← hd, List.append_assoc, List.mem_append, List.mem_append] at hx
    exact g1 x (by rcases hx with h | h | h <;> simp [h])
  have r2 : G3 ((flat gwN).take 1) (gwU (opsC ops) ops.length (Int.ofNat i)) [] .normal (gwX (opsC ops) ops.length (Int.ofNat i) (sl 2 d.length 1)) [none, none, some ⟨d.map (Value.int .i64), 3, none⟩] :=
    RowOK.go (RowOK.of_seeA OKg (m := 20) (j := 20) (f := 3) (p := keeps 3) (ts := [6, 12, 13]) rfl (gw_drN1 _ _ _ _ _ _ _ _) a2)
  have r3 : G3 (((flat gwN).drop 1).take 1) (gwX (opsC ops) ops.length (Int.ofNat i) (sl 2 d.length 1)) [none, none, some ⟨d.map (Value.int .i64), 3, none⟩] .normal (gwY (opsC ops) ops.length (Int.ofNat i) (sl 2 d.length 1) 0) [none, none, some ⟨d.map (Value.int .i64), 3, none⟩] :=
    RowOK.go (RowOK.of_seeA OKg (m := 20) (j := 20) (f := 3) (p := keeps 3) (ts := [6, 12, 13, 14]) rfl (gw_drN2 _ _ _ _ _ _ _ _) (gw_N2 _ _ _ _ _ _ _ _ _ _ _ _ _))
  have r23 : G3 ((flat gwN).take 1 ++ ((flat gwN).drop 1).take 1) (gwU (opsC ops) ops.length (Int.ofNat i)) [] .normal (gwY (opsC ops) ops.length (Int.ofNat i) (L1 d) (Int.ofNat 0)) [] := by
    refine GoOK.freeze (r2.app r3) (fun e he => ?_)
    simp only [gwY, List.mem_cons, List.not_mem_nil, or_false] at he
    rcases he with rfl | rfl | rfl | rfl
    · exact ⟨_, rfl, .inl ⟨rfl, Gh.gs (opsC_gh _)⟩⟩
    · exact ⟨_, rfl, .inl ⟨rfl, gh_int _ _⟩⟩
    · refine ⟨sl 2 d.length 1, rfl, .inr (.inl ⟨2, d.length, 1, d.map (Value.int .i64), 3, by omega, rfl, rfl, by simp, ints_gh _, ?_⟩)⟩
      rw [List.take_of_length_le (by simp)]; rfl
    · exact ⟨_, rfl, .inl ⟨rfl, gh_int _ _⟩⟩
  have lp := (GcOK.block (id := 8) (GcOK.loop (P := Try.prog) (lo := 0) (base := 0) (n := 158) (c := gwD) (fun k => gwY (opsC ops) ops.length (Int.ofNat i) (L1 d) (Int.ofNat k)) (fun _ => []) d.length (e := .exit 8) (by intro h; cases h) (gw_inner ops i d (by omega) hdl hdg) (gw_innerEnd (opsC ops) ops.length (Int.ofNat i) d))).row
  have rN : G3 (flat gwN) (gwU (opsC ops) ops.length (Int.ofNat i)) [] .normal (gwU (opsC ops) ops.length (Int.ofNat i)) [] := by
    have := r23.app (GoOK.app lp (RowOK.go (RowOK.nil.slots (F2 := gwU (opsC ops) ops.length (Int.ofNat i)) (fun e he => by
      simp only [gwU, List.mem_cons, List.not_mem_nil, or_false] at he
      rcases he with rfl | rfl <;> rfl))))
    rw [List.append_nil, List.append_assoc, ← gwN_flat] at this
    exact this
  have a4 := gw_M3 numF lwG8 (gw9 nilV []) nilV [] gw10 gw11 gw12 (opsC ops) ops.length i
  rw [w64_of (by simp; omega) (by simp; omega)] at a4
  have r4 : G3 ((flat gwM).drop 3) (gwU (opsC ops) ops.length (Int.ofNat i)) [] .normal (gwU (opsC ops) ops.length (Int.ofNat (i + 1))) [] := RowOK.go (RowOK.of_seeA OKg (m := 20) (j := 20) (f := 3) (p := keeps 3) (ts := [6, 12]) rfl (gw_drM3 _ _ _ _ _ _ _ _) a4)
  have all := r1.app (GoOK.app ((GcOK.block (id := 7) (GoOK.code rN)).row) r4)
  rw [← gwM_flat] at all
  exact GoOK.code all
theorem gw_outerEnd (cs : List Value) (n : Nat) : GcOK Try.prog 0 0 158 gwM (gwU cs n (Int.ofNat n)) [] (.exit 6) (gwU cs n (Int.ofNat n)) [] := by
  have a1 := gw_M1 numF lwG8 (gw9 nilV []) nilV [] gw10 gw11 gw12 cs n n
  rw [decide_eq_false (show ¬ Int.ofNat n < Int.ofNat n by simp), cond_false] at a1
  have r1 : G3 ((flat gwM).take 2) _ [] (.exit 6) _ [] := RowOK.go (RowOK.of_seeA OKg (m := 20) (j := 20) (f := 3) (p := keeps 3) (ts := [6, 12]) rfl (gw_drM1 _ _ _ _ _ _ _ _) a1)
  have all := r1.left (by intro h; cases h) ([.block 7 gwN] ++ (flat gwM).drop 3)
  rw [← gwM_flat] at all
  exact GoOK.code all
/-- The last pieces: all that is asked of the operations holds. -/
theorem gw_last (ops : List OpR) (hn : ops.length ≤ 400) (hat : ∀ i r, ops[i]? = some r → (∀ x, x ∈ r.addr ∨ x ∈ r.data ∨ x ∈ r.ctrl → x < Int.ofNat i ∧ Good ops x) ∧ r.addr.length ≤ i ∧ r.data.length ≤ i ∧ r.ctrl.length ≤ i) :
    G3 (gwP 16 1 ++ gwP 17 3) [(6, gs 13 (opsC ops) ops.length)] [] .ret [(4, .bool true)] [] := by
  have r0 : G3 (gwP 16 1) [(6, gs 13 (opsC ops) ops.length)] [] .normal (gwU (opsC ops) ops.length (Int.ofNat 0)) [] := RowOK.go (RowOK.of_seeA OKg (m := 20) (j := 20) (f := 3) (p := keeps 3) (ts := [6, 12]) rfl (gw_drM0 _ _ _ _ _ _ _ _) (gw_M0 _ _ _ _ _ _ _ _ _ _))
  have lp := (GcOK.block (id := 6) (GcOK.loop (P := Try.prog) (lo := 0) (base := 0) (n := 158) (c := gwM) (fun k => gwU (opsC ops) ops.length (Int.ofNat k)) (fun _ => []) ops.length (e := .exit 6) (by intro h; cases h) (gw_outer ops hn hat) (gw_outerEnd (opsC ops) ops.length))).row
  have tl : G3 (gwP 18 2) (gwU (opsC ops) ops.length (Int.ofNat ops.length)) [] .ret [(4, .bool true)] [] := RowOK.go (RowOK.of_seeA OKg (m := 20) (j := 20) (f := 3) (p := keeps 3) (ts := [4]) rfl (gw_drend _ _ _ _ _ _ _ _) (gw_end _ _ _ _ _ _ _ _ _ _ _))
  rw [gwT_flat]
  exact r0.app (GoOK.app lp tl)
end Go.Proofs.Ytbcikaoklpekhaa.Ab
namespace Go.Proofs.Ytbcikaoklpekhaa.Ab
open Go Go.RowKit
set_option linter.unusedVariables false
set_option linter.unusedSimpArgs false
set_option maxRecDepth 100000
/-- A part of what lies there. -/
theorem Froz.sub {w : World} {r o : Nat} {ys : List Value} (h : Froz w r o ys) (k n : Nat) (hk : k + n ≤ ys.length) : Froz w r (o + k) ((ys.drop k).take n) := by
  obtain ⟨cs, t, f, h1, h2, h3, h4⟩ := h
  have hl : ((ys.drop k).take n).length = n := by simp; omega
  refine ⟨cs, t, f, h1, by rw [hl]; omega, ?_, fun j hj1 hj2 => h4 j (by omega) (by rw [hl] at hj2; omega)⟩
  rw [hl]
  apply List.ext_getElem?
  intro i
  by_cases hi : i < n
  · rw [List.getElem?_take_of_lt hi, List.getElem?_take_of_lt hi, List.getElem?_drop, List.getElem?_drop, ← h3, List.getElem?_take_of_lt (by omega), List.getElem?_drop]
    congr 1; omega
  · rw [List.getElem?_eq_none (by simp; omega), List.getElem?_eq_none (by simp; omega)]
/-- A row of plain cells told with no more than its own cells. -/
theorem min_gs {M : Mp} {w : World} {z n : Nat} {xs : List Value} {u : Value} (hv : VR M (gs z xs n) u) (hp : xs.all plain = true) (hf : ∀ r o ys, M.fz r o ys → Froz w r o ys) :
    ∃ Z : Nat → Nat → List Value → Prop, (∀ r o ys, Z r o ys → Froz w r o ys ∧ ys = xs) ∧ VR ⟨[], Z⟩ (gs z xs n) u := by
  rcases gs_inv hv with ⟨rfl, rfl, rfl⟩ | ⟨rfl, rfl, ad, c, rfl⟩ | ⟨ys, r, o, j, c, f1, f2, f3, f4, f5, rfl⟩
  · exact ⟨fun _ _ _ => False, fun _ _ _ h => h.elim, .gnil _⟩
  · exact ⟨fun _ _ _ => False, fun _ _ _ h => h.elim, .gemp _ _ _⟩
  · have e : (ys.drop j).take (n * z) = xs := plains_eq (p := plain) (fun v v' h k => plain_eq h k) hp f5
    refine ⟨fun r' o' ys' => r' = r ∧ o' = o + j ∧ ys' = xs, fun r' o' ys' h => ?_, ?_⟩
    · obtain ⟨rfl, rfl, rfl⟩ := h
      refine ⟨?_, rfl⟩
      have := (hf _ _ _ f1).sub j (n * z) f2
      rwa [e] at this
    · have := VR.gsl (M := ⟨[], fun r' o' ys' => r' = r ∧ o' = o + j ∧ ys' = xs⟩) (xs := xs) (ys := xs) (r := r) (o := o + j) (k := 0) (n := n) (c := c) (z := z) ⟨rfl, rfl, rfl⟩ (by rw [f4]; omega) f3 f4 (by rw [List.drop_zero, List.take_of_length_le (by rw [f4]; exact Nat.le_refl _)]; exact plains (fun v h => plain_VR h) hp)
      simpa using this
/-- A list of which but its length is told. -/
def LO (n : Nat) : Value := gs 1 (List.replicate n opq) n
def looseC (r : OpR) : List Value := opC r.q (LO r.addr.length) (LO r.data.length) (LO r.ctrl.length)
def looseL (l : List OpR) : List Value := l.flatMap looseC
/-- What is told while part's lists are written: its row, and lists of numbers in these blocks. -/
def mPart (s1 s3 r0 N : Nat) (w : World) : Mp := ⟨[(r0, 0, N)], fun r o ys => Froz w r o ys ∧ s1 ≤ r ∧ r < s3 ∧ r ≠ r0 ∧ ∀ y ∈ ys, ∃ x, y = .int .i64 x⟩
def PartOK (s1 s3 r0 N : Nat) (Pl : List Value) (w : World) : Prop := Rel 1 (mPart s1 s3 r0 N w) [some ⟨Pl, 32, none⟩] w
theorem mPart_le {s1 s3 r0 N : Nat} {w w' : World} (h : ∀ r o ys, Froz w r o ys → Froz w' r o ys) : Le (mPart s1 s3 r0 N w) (mPart s1 s3 r0 N w') := ⟨fun _ _ e => e, fun r o ys e => ⟨h r o ys e.1, e.2⟩⟩
theorem froz_below {w w' : World} (hb : Below w.heap.size w w') {r o : Nat} {ys : List Value} (h : Froz w r o ys) : Froz w' r o ys := h.of (hb.block r h.lt)
theorem PartOK.below {s1 s3 r0 N : Nat} {Pl : List Value} {w w' : World} (h : PartOK s1 s3 r0 N Pl w) (hb : Below w.heap.size w w') : PartOK s1 s3 r0 N Pl w' := by
  have h1 := Rel.below h hb
  have hle := mPart_le (s1 := s1) (s3 := s3) (r0 := r0) (N := N) (w := w) (w' := w') (fun r o ys => froz_below hb)
  refine ⟨h1.len, h1.dom, fun i b e => ?_, h1.own, h1.inj, fun r o ys e => ⟨e.1, fun i p hi ep => ?_⟩⟩
  · obtain ⟨r, s, cs, t, fz, g1, g2, g3, g4, g5, g6⟩ := h1.blk i b e
    exact ⟨r, s, cs, t, fz, g1, g2, g3, g4, g5.le hle, g6⟩
  · have := (List.getElem?_eq_some_iff.1 ep).1
    simp [mPart] at this; omega
theorem LO_turn {s1 s3 r0 N : Nat} {w w' : World} {n : Nat} {u : Value} (h : VR (mPart s1 s3 r0 N w) (LO n) u)
    (ht : ∀ r o ys, Froz w r o ys → s1 ≤ r → r < s3 → r ≠ r0 → (∀ y ∈ ys, ∃ x, y = Value.int .i64 x) → ∃ ys', ys'.length = ys.length ∧ Froz w' r o ys' ∧ ∀ y ∈ ys', ∃ x, y = Value.int .i64 x) : VR (mPart s1 s3 r0 N w') (LO n) u := by
  rcases gs_inv h with ⟨hx, rfl, rfl⟩ | ⟨hx, rfl, ad, c, rfl⟩ | ⟨ys, r, o, j, c, f1, f2, f3, f4, f5, rfl⟩
  · exact .gnil _
  · exact .gemp _ _ _
  · obtain ⟨e1, e2, e3, e4, e5⟩ := f1
    obtain ⟨ys', hl, h1, h2⟩ := ht r o ys e1 e2 e3 e4 e5
    refine VR.gsl (M := mPart s1 s3 r0 N w') (ys := ys') (r := r) (o := o) (k := j) ⟨h1, e2, e3, e4, h2⟩ (by rw [hl]; exact f2) f3 f4 ?_
    refine VRs.of (by rw [List.length_replicate, List.length_take, List.length_drop, hl]; omega) fun i x y hx hy => ?_
    have hxe : x = opq := by
      have := List.mem_of_getElem? hx
      exact List.eq_of_mem_replicate this
    have hym : y ∈ ys' := List.mem_of_mem_drop (List.mem_of_mem_take (List.mem_of_getElem? hy))
    obtain ⟨z, rfl⟩ := h2 y hym
    rw [hxe]; exact .opq _ rfl
theorem loose_cell {l : List OpR} {x : Value} (h : x ∈ looseL l) : plain x = true ∨ ∃ n, x = LO n := by
  obtain ⟨r, _, hr⟩ := List.mem_flatMap.1 h
  simp only [looseC, opC, List.mem_cons, List.not_mem_nil, or_false] at hr
  rcases hr with rfl | rfl | rfl | rfl | rfl | rfl | rfl | rfl | rfl | rfl | rfl | rfl | rfl <;> first | exact .inl rfl | exact .inr ⟨_, rfl⟩
theorem VRs.turn {M M' : Mp} : ∀ {xs us : List Value}, (∀ x ∈ xs, ∀ u, VR M x u → VR M' x u) → VRs M xs us → VRs M' xs us
  | [], _, _, h => by cases h; exact .nil
  | x :: xs, _, hx, h => by
    cases h with
    | cons a b => exact .cons (hx x (List.mem_cons_self ..) _ a) (VRs.turn (fun y hy => hx y (List.mem_cons_of_mem _ hy)) b)
theorem setCell_heap {w : World} {r p : Nat} {v : Value} {cs : Array Value} {t : TypeId} {f : Nat × Nat} (h : w.heap[r]? = some (.cells cs t f)) : (w.setCell ⟨r, p, none⟩ v).heap[r]? = some (.cells (cs.setIfInBounds p v) t f) := by
  simp [World.setCell, Array.getElem?_modify, h]
theorem setCell_other {w : World} {r p k : Nat} {v : Value} (h : k ≠ r) : (w.setCell ⟨r, p, none⟩ v).heap[k]? = w.heap[k]? := by
  simp only [World.setCell, Array.getElem?_modify]
  rw [if_neg (fun e => h e.symm)]
theorem setCell_size {w : World} {r p : Nat} {v : Value} : (w.setCell ⟨r, p, none⟩ v).heap.size = w.heap.size := by simp [World.setCell]
/-- A number written into a list of part's. -/
theorem PartOK.write {s1 s3 r0 N : Nat} {l : List OpR} {w : World} (h : PartOK s1 s3 r0 N (looseL l) w) {r o j : Nat} {ys : List Value} (hf : Froz w r o ys) (h1 : s1 ≤ r) (h3 : r < s3) (h0 : r ≠ r0) (hj : j < ys.length) (z : Int) :
    (∀ (P : Program) (m : Mode), (store ⟨r, o + j, none⟩ (.int .i64 z) m).run P w = .ok () (w.setCell ⟨r, o + j, none⟩ (.int .i64 z))) ∧ PartOK s1 s3 r0 N (looseL l) (w.setCell ⟨r, o + j, none⟩ (.int .i64 z)) := by
  obtain ⟨cs, t, f, g1, g2, g3, g4⟩ := hf
  have hp : o + j < cs.length := by omega
  refine ⟨fun P m => ?_, ?_⟩
  · rw [run_store P w _ _ m rfl]
    have c1 : w.cell? ⟨r, o + j, none⟩ = some cs[o + j] := by
      unfold World.cell?
      simp [g1, hp]
    have c2 : w.frozen? ⟨r, o + j, none⟩ = false := by
      unfold World.frozen?
      simp only [g1]
      have := g4 (o + j) (by omega) (by omega)
      simpa using this
    rw [c1, c2]; rfl
  · have hset := setCell_heap (p := o + j) (v := .int .i64 z) g1
    have turn : ∀ r' o' ys', Froz w r' o' ys' → s1 ≤ r' → r' < s3 → r' ≠ r0 → (∀ y ∈ ys', ∃ x, y = Value.int .i64 x) → ∃ ys'', ys''.length = ys'.length ∧ Froz (w.setCell ⟨r, o + j, none⟩ (.int .i64 z)) r' o' ys'' ∧ ∀ y ∈ ys'', ∃ x, y = Value.int .i64 x := by
      intro r' o' ys' hf' _ _ _ hi
      by_cases hr : r' = r
      · subst hr
        obtain ⟨cs', t', f', k1, k2, k3, k4⟩ := hf'
        rw [g1] at k1
        simp only [Option.some.injEq, Obj.cells.injEq] at k1
        obtain ⟨e1, e2, e3⟩ := k1
        have e1 : cs = cs' := by simpa using e1
        subst e1; subst e2; subst e3
        have hlen : (((cs.set (o + j) (.int .i64 z)).drop o').take ys'.length).length = ys'.length := by simp; omega
        refine ⟨((cs.set (o + j) (.int .i64 z)).drop o').take ys'.length, hlen, ⟨cs.set (o + j) (.int .i64 z), t, f, by rw [hset]; simp, by rw [hlen]; simpa using k2, by rw [hlen], by rw [hlen]; exact k4⟩, fun y hy => ?_⟩
        obtain ⟨i, hi', rfl⟩ := List.mem_iff_getElem.1 hy
        have hi2 : i < ys'.length := by rw [hlen] at hi'; exact hi'
        have hy' : (((cs.set (o + j) (.int .i64 z)).drop o').take ys'.length)[i]? = (cs.set (o + j) (.int .i64 z))[o' + i]? := by
          rw [List.getElem?_take_of_lt hi2, List.getElem?_drop]
        rw [List.getElem?_eq_getElem hi'] at hy'
        rw [List.getElem?_set] at hy'
        by_cases hij : o + j = o' + i
        · rw [if_pos hij, if_pos (by omega)] at hy'
          exact ⟨z, Option.some.inj hy'⟩
        · rw [if_neg hij] at hy'
          have : ys'[i]? = cs[o' + i]? := by rw [← k3, List.getElem?_take_of_lt hi2, List.getElem?_drop]
          rw [← this, List.getElem?_eq_getElem hi2] at hy'
          rw [Option.some.inj hy']
          exact hi _ (List.getElem_mem hi2)
      · exact ⟨ys', rfl, hf'.of (setCell_other hr), hi⟩
    refine ⟨h.len, fun i p e => by rw [setCell_size]; exact h.dom i p e, fun i b e => ?_, h.own, h.inj, fun r o ys e => ⟨e.1, fun i p hi ep => ?_⟩⟩
    · obtain ⟨rr, ss, cs', t', fz, k1, k2, k3, k4, k5, k6⟩ := h.blk i b e
      have hi : i = 0 := by
        have := (List.getElem?_eq_some_iff.1 e).1
        simp at this; omega
      subst hi
      have hrr : rr = r0 := by simp [mPart] at k1; exact k1.1.symm
      simp at e; subst e
      refine ⟨rr, ss, cs', t', fz, k1, by rw [setCell_other (by rw [hrr]; exact fun e => h0 e.symm)]; exact k2, k3, k4, ?_, k6⟩
      refine VRs.turn (fun x hx u hu => ?_) k5
      rcases loose_cell hx with hpl | ⟨n, rfl⟩
      · rw [plain_eq hpl hu]; exact plain_VR hpl
      · exact LO_turn hu turn
    · have := (List.getElem?_eq_some_iff.1 ep).1
      simp [mPart] at this; omega
end Go.Proofs.Ytbcikaoklpekhaa.Ab
namespace Go.Proofs.Ytbcikaoklpekhaa.Ab
open Go Go.RowKit
set_option linter.unusedVariables false
set_option linter.unusedSimpArgs false
set_option maxRecDepth 100000
noncomputable def gwRun1 (N : Int → Int → Int) (G8 : Int → Int → Bool) (G9 : Nat → List Value → Nat → Heap → Bool) (V : Value) (K9 : Heap) (G10 : Value → Value → Bool) (G11 : Value → Bool) (G12 : Nat → Value → Heap → Bool) (l : List Code) (F : Fr) (H : Heap) (ts : List Nat) : Option (Exit × List (Option Value) × Heap) :=
  runL ((ctx (gwΦ N G8 G9 V K9 G10 G11 G12)).at_ 3) (callK (ctx (gwΦ N G8 G9 V K9 G10 G11 G12)) 20) 20 1 158 3 (keeps 3) l F H (seeA ts)
noncomputable def opsR1 (N : Int → Int → Int) (G8 : Int → Int → Bool) (G9 : Nat → List Value → Nat → Heap → Bool) (V : Value) (K9 : Heap) (G10 : Value → Value → Bool) (G11 : Value → Bool) (G12 : Nat → Value → Heap → Bool) (all l : List Oper) (F : Fr) (H : Heap) (ts : List Nat) : Option (List (Option Value) × Heap) :=
  opsK ((ctx (gwΦ N G8 G9 V K9 G10 G11 G12)).at_ 3) (callK (ctx (gwΦ N G8 G9 V K9 G10 G11 G12)) 20) 1 158 all l F H (fun F' H' => some (ts.map F'.get, H'))
section
variable (N : Int → Int → Int) (G8 : Int → Int → Bool) (G9 : Nat → List Value → Nat → Heap → Bool) (V : Value) (K9 : Heap) (G10 : Value → Value → Bool) (G11 : Value → Bool) (G12 : Nat → Value → Heap → Bool)
theorem gx_L1 (Pl : List Value) (m i : Nat) : gwRun1 N G8 G9 V K9 G10 G11 G12 ((flat gwL).take 2) (gwS m (Int.ofNat i)) [some ⟨Pl, 32, none⟩] [7, 9] =
    bif decide (Int.ofNat i < Int.ofNat (m + 1)) then some (.normal, (gwS m (Int.ofNat i)).map (fun e => some e.2), [some ⟨Pl, 32, none⟩]) else some (.exit 0, (gwS m (Int.ofNat i)).map (fun e => some e.2), [some ⟨Pl, 32, none⟩]) := by kernel_rfl
theorem gx_L3 (Pl : List Value) (m i : Nat) : gwRun1 N G8 G9 V K9 G10 G11 G12 ((flat gwL).drop 3) (gwS m (Int.ofNat i)) [some ⟨Pl, 32, none⟩] [7, 9] =
    some (.normal, (gwS m (w64 (Int.ofNat i + 1))).map (fun e => some e.2), [some ⟨Pl, 32, none⟩]) := by kernel_rfl
theorem gx_I1 (Pl : List Value) (m : Nat) (i : Int) : gwRun1 N G8 G9 V K9 G10 G11 G12 ((flat gwI).take 1) (gwS m i) [some ⟨Pl, 32, none⟩] [7, 9, 10] =
    some (.normal, (gwT m i 0 10).map (fun e => some e.2), [some ⟨Pl, 32, none⟩]) := by kernel_rfl
theorem gx_I3 (Pl : List Value) (m : Nat) (i : Int) : gwRun1 N G8 G9 V K9 G10 G11 G12 (((flat gwI).drop 2).take 1) (gwS m i) [some ⟨Pl, 32, none⟩] [7, 9, 11] =
    some (.normal, (gwT m i 0 11).map (fun e => some e.2), [some ⟨Pl, 32, none⟩]) := by kernel_rfl
theorem gx_C1 (Pl : List Value) (m i k : Nat) : gwRun1 N G8 G9 V K9 G10 G11 G12 ((flat gwC).take 2) (gwT m (Int.ofNat i) (Int.ofNat k) 10) [some ⟨Pl, 32, none⟩] [7, 9, 10] =
    hdG Pl m i 12 (bif isLen (hdV Pl i 12) then bif decide (Int.ofNat k < lenOf (hdV Pl i 12)) then some (.normal, (gwT m (Int.ofNat i) (Int.ofNat k) 10).map (fun e => some e.2), [some ⟨Pl, 32, none⟩]) else some (.exit 2, (gwT m (Int.ofNat i) (Int.ofNat k) 10).map (fun e => some e.2), [some ⟨Pl, 32, none⟩]) else none) := by kernel_rfl
theorem gx_C3 (Pl : List Value) (m i k : Nat) : gwRun1 N G8 G9 V K9 G10 G11 G12 ((flat gwC).drop 3) (gwT m (Int.ofNat i) (Int.ofNat k) 10) [some ⟨Pl, 32, none⟩] [7, 9, 10] =
    some (.normal, (gwT m (Int.ofNat i) (w64 (Int.ofNat k + 1)) 10).map (fun e => some e.2), [some ⟨Pl, 32, none⟩]) := by kernel_rfl
theorem gx_Cload (Pl : List Value) (m i k : Nat) : opsR1 N G8 G9 V K9 G10 G11 G12 opC3 (opC3.take 5) (gwT m (Int.ofNat i) (Int.ofNat k) 10) [some ⟨Pl, 32, none⟩] [10, 73] =
    bif decide (Int.ofNat i < ((m + 1 : Nat) : Int)) then bif Nat.blt (0 + i * 13 + 12) Pl.length && true then some ([some (.int .i64 (Int.ofNat k)), some (hdV Pl i 12)], [some ⟨Pl, 32, none⟩]) else none else none := by kernel_rfl
theorem gx_Cplace (Pl : List Value) (k n : Nat) (ys : List Value) : opsR1 N G8 G9 V K9 G10 G11 G12 opC3 ((opC3.drop 5).take 2) [(10, .int .i64 (Int.ofNat k)), (73, gs 1 ys n)] [some ⟨Pl, 32, none⟩] [75] =
    bif decide (Int.ofNat k < Int.ofNat n) && true then some ([some (gp (ys.drop (k * 1)))], [some ⟨Pl, 32, none⟩]) else none := by kernel_rfl
theorem gx_A1 (Pl : List Value) (m i k : Nat) : gwRun1 N G8 G9 V K9 G10 G11 G12 ((flat gwA).take 2) (gwT m (Int.ofNat i) (Int.ofNat k) 11) [some ⟨Pl, 32, none⟩] [7, 9, 11] =
    hdG Pl m i 10 (bif isLen (hdV Pl i 10) then bif decide (Int.ofNat k < lenOf (hdV Pl i 10)) then some (.normal, (gwT m (Int.ofNat i) (Int.ofNat k) 11).map (fun e => some e.2), [some ⟨Pl, 32, none⟩]) else some (.exit 4, (gwT m (Int.ofNat i) (Int.ofNat k) 11).map (fun e => some e.2), [some ⟨Pl, 32, none⟩]) else none) := by kernel_rfl
theorem gx_A3 (Pl : List Value) (m i k : Nat) : gwRun1 N G8 G9 V K9 G10 G11 G12 ((flat gwA).drop 3) (gwT m (Int.ofNat i) (Int.ofNat k) 11) [some ⟨Pl, 32, none⟩] [7, 9, 11] =
    some (.normal, (gwT m (Int.ofNat i) (w64 (Int.ofNat k + 1)) 11).map (fun e => some e.2), [some ⟨Pl, 32, none⟩]) := by kernel_rfl
theorem gx_Aload (Pl : List Value) (m i k : Nat) : opsR1 N G8 G9 V K9 G10 G11 G12 opA3 (opA3.take 5) (gwT m (Int.ofNat i) (Int.ofNat k) 11) [some ⟨Pl, 32, none⟩] [11, 90] =
    bif decide (Int.ofNat i < ((m + 1 : Nat) : Int)) then bif Nat.blt (0 + i * 13 + 10) Pl.length && true then some ([some (.int .i64 (Int.ofNat k)), some (hdV Pl i 10)], [some ⟨Pl, 32, none⟩]) else none else none := by kernel_rfl
theorem gx_Aplace (Pl : List Value) (k n : Nat) (ys : List Value) : opsR1 N G8 G9 V K9 G10 G11 G12 opA3 ((opA3.drop 5).take 2) [(11, .int .i64 (Int.ofNat k)), (90, gs 1 ys n)] [some ⟨Pl, 32, none⟩] [92] =
    bif decide (Int.ofNat k < Int.ofNat n) && true then some ([some (gp (ys.drop (k * 1)))], [some ⟨Pl, 32, none⟩]) else none := by kernel_rfl
end
theorem fc_8 : (gwP 8 1).all (freeC [0, 5, 6]) = true := by kernel_rfl
theorem fc_9 : (gwP 9 2).all (freeC [0, 6, 7]) = true := by kernel_rfl
theorem fc_11 : (gwP 11 1).all (freeC [0, 6, 7]) = true := by kernel_rfl
theorem fc_12 : (gwP 12 1).all (freeC [0, 6, 7, 8]) = true := by kernel_rfl
theorem fc_L1 : ((flat gwL).take 2).all (freeC [0, 6, 8]) = true := by kernel_rfl
theorem fc_L3 : ((flat gwL).drop 3).all (freeC [0, 6, 8]) = true := by kernel_rfl
theorem fc_I1 : ((flat gwI).take 1).all (freeC [0, 6, 8]) = true := by kernel_rfl
theorem fc_I3 : (((flat gwI).drop 2).take 1).all (freeC [0, 6, 8]) = true := by kernel_rfl
theorem fc_C1 : ((flat gwC).take 2).all (freeC [0, 6, 8]) = true := by kernel_rfl
theorem fc_C3 : ((flat gwC).drop 3).all (freeC [0, 6, 8]) = true := by kernel_rfl
theorem fc_A1 : ((flat gwA).take 2).all (freeC [0, 6, 8]) = true := by kernel_rfl
theorem fc_A3 : ((flat gwA).drop 3).all (freeC [0, 6, 8]) = true := by kernel_rfl
theorem fo_C1 : ((opC3.take 5).all fun o => notIn [0, 6, 7, 8, 9, 10] o.dst) = true := by kernel_rfl
theorem fo_C2 : (((opC3.drop 5).take 2).all fun o => notIn [0, 6, 7, 8, 9, 10] o.dst) = true := by kernel_rfl
theorem fo_A1 : ((opA3.take 5).all fun o => notIn [0, 6, 7, 8, 9, 11] o.dst) = true := by kernel_rfl
theorem fo_A2 : (((opA3.drop 5).take 2).all fun o => notIn [0, 6, 7, 8, 9, 11] o.dst) = true := by kernel_rfl
end Go.Proofs.Ytbcikaoklpekhaa.Ab
namespace Go.Proofs.Ytbcikaoklpekhaa.Ab
open Go Go.RowKit
set_option linter.unusedVariables false
set_option linter.unusedSimpArgs false
set_option maxRecDepth 100000
def opsE (T : Tab) (n : Nat) (ops : List Oper) : List Oper → Fr → Heap → Option (Bool × Fr)
  | [], F, _ => some (true, F)
  | o :: r, F, H => match wantA ops F o.guard with
    | some true => match evalC T F H o.op with
      | some (c, v) => match putA n F o.dst v with
        | some F' => match opsE T n ops r F' H with
          | some (c', F'') => some (c && c', F'')
          | none => none
        | none => none
      | none => none
    | _ => none
theorem opsE_sound {P : Program} {T : Tab} (hT : TabOK P T) {n : Nat} {ts : List Nat} {ops : Array Oper} : ∀ (l : List Oper), (l.all fun o => notIn ts o.dst) = true → ∀ {F F' : Fr} {H : Heap}, opsE T n ops.toList l F H = some (true, F') →
    ∀ {lo : Nat} {M : Mp} {a : Act} {w : World}, Rel lo M H w → FR M F a.tmps → a.tmps.size = n → ∀ {Q : Exit → Act → World → Prop} (l' : List Oper),
      (∀ a', FR M F' a'.tmps → a'.tmps.size = n → a'.defers = a.defers → Same ts a a' → wpList P ops Q l' a' w) → wpList P ops Q (l ++ l') a w
  | [], _, F, F', H, h, lo, M, a, w, hR, hF, hs, Q, l', hk => by
    simp only [opsE, Option.some.injEq, Prod.mk.injEq, true_and] at h
    subst h
    exact hk a hF hs rfl (Same.refl _ _)
  | o :: l, hf, F, F', H, h, lo, M, a, w, hR, hF, hs, Q, l', hk => by
    simp only [List.all_cons, Bool.and_eq_true] at hf
    unfold opsE at h
    split at h
    · rename_i hb
      split at h
      · rename_i c v hv
        split at h
        · rename_i F1 hF1
          split at h
          · rename_i c' F2 h2
            simp only [Option.some.injEq, Prod.mk.injEq, Bool.and_eq_true] at h
            obtain ⟨⟨rfl, rfl⟩, rfl⟩ := h
            have hw := wantA_sound (ops := ops) hF hb
            refine wpList_step fun K' hK' => ?_
            rw [if_pos hw]
            obtain ⟨rv, h3, h4⟩ := evalC_sound (P := P) hT hR hF hv
            unfold Oper.wp
            rw [h4 o rfl w (Told.refl _ _ _), Oper.upon_value]
            obtain ⟨p1, p2, p3⟩ := putA_sound hF hs hF1 h3
            exact hK' _ _ (opsE_sound hT l hf.2 h2 hR p1 p2 l' fun a' g1 g2 g3 g4 => hk a' g1 g2 (g3.trans p3) ((put_same hf.1 a rv).trans g4))
          · cases h
        · cases h
      · cases h
    · cases h
noncomputable def gwE0 (all l : List Oper) (F : Fr) (H : Heap) (t : Nat) : Option (Bool × Option Value) :=
  match opsE tab 158 all l F H with
  | some (c, F') => some (c, F'.get t)
  | none => none
end Go.Proofs.Ytbcikaoklpekhaa.Ab
namespace Go.Proofs.Ytbcikaoklpekhaa.Ab
open Go Go.RowKit
set_option linter.unusedVariables false
set_option linter.unusedSimpArgs false
set_option maxRecDepth 100000
/-- What the writing loops keep. -/
structure WK (s1 s3 r0 N : Nat) (L : List OpR) (a5 : Act) (w5 : World) (a : Act) (w : World) : Prop where
  part : PartOK s1 s3 r0 N (looseL L) w
  size : a.tmps.size = 158
  defers : a.defers = []
  same : Same [0, 6, 8] a5 a
  os : w.os = w5.os
  tape : w.tape = w5.tape
  output : w.output = w5.output
  hsize : w5.heap.size ≤ w.heap.size
  block : ∀ k, k < w5.heap.size → ¬ (s1 ≤ k ∧ k < s3) → w.heap[k]? = w5.heap[k]?
def Lo (v : Value) : Prop := plain v = true ∨ ∃ n, v = .slice (some ⟨0, 0, none⟩) n 13
theorem tr0 {M M' : Mp} {o n z : Nat} {u : Value} (hz : 0 < z) (e : M'.pl[0]? = M.pl[0]?) (hv : VR M (.slice (some ⟨0, o, none⟩) n z) u) : VR M' (.slice (some ⟨0, o, none⟩) n z) u := by
  cases hv with
  | slice h a b => exact .slice (by rw [e]; exact h) a b
  | empt => omega
theorem lo_turn {M M' : Mp} {v u : Value} (e : M'.pl[0]? = M.pl[0]?) (h : Lo v) (hv : VR M v u) : VR M' v u := by
  rcases h with hp | ⟨n, rfl⟩
  · rw [plain_eq hp hv]; exact plain_VR hp
  · exact tr0 (by omega) e hv
section
variable {s1 s3 r0 N : Nat} {L : List OpR} {a5 : Act} {w5 : World}
theorem WK.below {a a' : Act} {w w' : World} (h : WK s1 s3 r0 N L a5 w5 a w) (hb : Below w.heap.size w w') (hs : a'.tmps.size = 158) (hd : a'.defers = []) (hsm : Same [0, 6, 8] a a') : WK s1 s3 r0 N L a5 w5 a' w' :=
  ⟨h.part.below hb, hs, hd, h.same.trans hsm, hb.os.trans h.os, hb.tape.trans h.tape, hb.output.trans h.output, Nat.le_trans h.hsize hb.size, fun k hk hn => by rw [hb.block k (Nat.lt_of_lt_of_le hk h.hsize), h.block k hk hn]⟩
abbrev rowB1 (L : List OpR) : Heap := [some ⟨looseL L, 32, none⟩]
noncomputable abbrev gwR1 (l : List Code) (F : Fr) (L : List OpR) (ts : List Nat) := gwRun1 numF lwG8 (gw9 nilV []) nilV [] gw10 gw11 gw12 l F (rowB1 L) ts
/-- A piece that only looks. -/
theorem WK.quiet {l : List Code} {F F2 : Fr} {e : Exit} {ts : List Nat} (hts : F2.map (·.1) = ts) (hfc : l.all (freeC [0, 6, 8]) = true) (hrun : gwR1 l F L ts = some (e, F2.map (fun e => some e.2), rowB1 L)) (hF2 : ∀ x ∈ F2, Lo x.2)
    {a : Act} {w : World} (h : WK s1 s3 r0 N L a5 w5 a w) (hF : FR (mPart s1 s3 r0 N w) F a.tmps) {Q : Exit → Act → World → Prop} (rest : List Code)
    (hk : ∀ a' w', WK s1 s3 r0 N L a5 w5 a' w' → FR (mPart s1 s3 r0 N w') F2 a'.tmps → Exit.then (wpL Try.prog Q rest) Q e a' w') : wpL Try.prog Q (l ++ rest) a w := by
  subst hts
  obtain ⟨e1, F1, H1, h1, h2⟩ := runL_same (OKg.at_ 3) (call := callK (ctx (gwΦ numF lwG8 (gw9 nilV []) nilV [] gw10 gw11 gw12)) 20) (fun lo f args H K r h => callK_sound OKg 20 lo f args H K r h) l hfc F (rowB1 L) _ hrun
  simp only [seeA, Option.some.injEq, Prod.mk.injEq] at h1
  obtain ⟨rfl, h3, rfl⟩ := h1
  refine h2 _ a w h.part hF h.size h.defers Q rest fun M' a' w' hx hR hK hF' hs hd hsm => ?_
  have hb : Below w.heap.size w w' := hK.below (by simp [mPart])
  refine hk a' w' (h.below hb hs hd hsm) fun t v ev => ?_
  have hmem := Fr.get_mem ev
  obtain ⟨u, g1, g2⟩ := hF' t v (see_slots h3 (t, v) hmem)
  refine ⟨u, g1, lo_turn ?_ (hF2 _ hmem) g2⟩
  exact (hx.le.at_ 0 _ rfl).symm
/-- A number written. -/
theorem WK.write {ops : List Oper} {id tk tl tp m i k n : Nat} {o : Oper} (hsplit : ops = ops.take 5 ++ ((ops.drop 5).take 2 ++ [o])) (ho : o.op = .store 3 (.tmp tp) (.const (.int .i64 99))) (hg : o.guard = none) (hd : o.dst = none)
    (n1 : ((ops.take 5).all fun o => notIn [0, 6, 7, 8, 9, tk] o.dst) = true) (n2 : (((ops.drop 5).take 2).all fun o => notIn [0, 6, 7, 8, 9, tk] o.dst) = true)
    (e1 : gwE0 ops (ops.take 5) (gwT m (Int.ofNat i) (Int.ofNat k) tk) (rowB1 L) tl = some (true, some (LO n)))
    (e2 : gwE0 ops ((ops.drop 5).take 2) [(tk, .int .i64 (Int.ofNat k)), (tl, LO n)] (rowB1 L) tp = some (true, some (gp ((List.replicate n opq).drop (k * 1))))) (hkn : k < n) (htk : tk ≠ 7 ∧ tk ≠ 9)
    {a : Act} {w : World} (h : WK s1 s3 r0 N L a5 w5 a w) (hF : FR (mPart s1 s3 r0 N w) (gwT m (Int.ofNat i) (Int.ofNat k) tk) a.tmps) {Q : Exit → Act → World → Prop}
    (hk : ∀ a' w', WK s1 s3 r0 N L a5 w5 a' w' → FR (mPart s1 s3 r0 N w') (gwT m (Int.ofNat i) (Int.ofNat k) tk) a'.tmps → Q .normal a' w') : (Code.region id ops.toArray false).wp Try.prog Q a w := by
  have unE : ∀ {l : List Oper} {F : Fr} {H : Heap} {t : Nat} {v : Value}, gwE0 ops l F H t = some (true, some v) → ∃ F', opsE tab 158 ops l F H = some (true, F') ∧ F'.get t = some v := fun {l F H t v} he => by
    unfold gwE0 at he
    split at he
    · rename_i c F' hc
      simp only [Option.some.injEq, Prod.mk.injEq] at he
      exact ⟨F', by rw [hc, he.1], he.2⟩
    · cases he
  obtain ⟨F1, x1, y1⟩ := unE e1
  obtain ⟨F2, x2, y2⟩ := unE e2
  have hT : TabOK Try.prog tab := OKg.tab
  refine wp_region_list ?_
  suffices goal : wpList Try.prog ops.toArray Q (ops.take 5 ++ ((ops.drop 5).take 2 ++ [o])) a w by
    rw [← hsplit] at goal; exact goal
  have gk : (gwT m (Int.ofNat i) (Int.ofNat k) tk).get tk = some (.int .i64 (Int.ofNat k)) := by
    have b1 : (7 == tk) = false := beq_eq_false_iff_ne.2 (fun e => htk.1 e.symm)
    have b2 : (9 == tk) = false := beq_eq_false_iff_ne.2 (fun e => htk.2 e.symm)
    simp [gwT, Fr.get, b1, b2]
  refine opsE_sound hT _ n1 x1 h.part hF h.size _ fun a1 p1 p2 p3 p4 => ?_
  obtain ⟨ul, ul1, ul2⟩ := p1 tl _ y1
  have hFm : FR (mPart s1 s3 r0 N w) [(tk, .int .i64 (Int.ofNat k)), (tl, LO n)] a1.tmps := by
    intro t v ev
    have hmem := Fr.get_mem ev
    simp only [List.mem_cons, List.not_mem_nil, or_false, Prod.mk.injEq] at hmem
    rcases hmem with ⟨rfl, rfl⟩ | ⟨rfl, rfl⟩
    · obtain ⟨u, q1, q2⟩ := hF t _ gk
      exact ⟨u, by rw [p4 t (by simp)]; exact q1, q2⟩
    · exact ⟨ul, ul1, ul2⟩
  refine opsE_sound hT _ n2 x2 h.part hFm p2 _ fun a2 q1 q2 q3 q4 => ?_
  obtain ⟨u, u1, u2⟩ := q1 tp _ y2
  obtain ⟨ys, r, of, j, f1, f2, f3, rfl⟩ := gp_inv u2
  obtain ⟨g1, g2, g3, g4, g5⟩ := f1
  have hj : j < ys.length := by
    simp only [List.length_drop, List.length_replicate] at f2
    omega
  obtain ⟨w1, w2⟩ := PartOK.write h.part g1 g2 g3 g4 hj 99
  refine wpList_plain hg fun K hK => ?_
  have hz : a2.eval (.tmp tp) = .pointer (some ⟨r, of + j, none⟩) := by
    simp only [Act.eval, Array.getD_eq_getD_getElem?, u1, Option.getD_some]
  obtain ⟨i3, hi3, hi4⟩ : ∃ i, tab 3 = some i ∧ i.size = 1 := ⟨_, rfl, rfl⟩
  have hc : (a2.eval (.const (.int .i64 99))).cells = #[.int .i64 99] := rfl
  have hrun : (execOp a2.eval o).run Try.prog w = .ok .skip (w.setCell ⟨r, of + j, none⟩ (.int .i64 99)) := by
    have hst : (storeCells ⟨r, of + j, none⟩ [.int .i64 99]).run Try.prog w = .ok () (w.setCell ⟨r, of + j, none⟩ (.int .i64 99)) := by
      simp only [storeCells, Sem.run_bind, Sem.run_pure, add_none, Nat.add_zero, w1, Result.andThen_ok]
    simp only [execOp, ho, hz, Instr.storeAt, Instr.sureAddr, storeVar, hc, Sem.run_bind, Sem.run_pure, Result.andThen_ok, hT.sizeOf hi3 w, hi4, List.size_toArray, List.length_cons, List.length_nil, ne_eq, not_true_eq_false, if_false, hst]
  unfold Oper.wp
  rw [hrun, Oper.upon_skip, hd]
  refine hK _ _ (wpList_nil (hk _ _ ?_ ?_))
  · have hsm : Same [0, 6, 8] a a2 := fun t ht => by
      have hm : t ∈ [0, 6, 7, 8, 9, tk] := by simp at ht ⊢; omega
      rw [q4 t hm, p4 t hm]
    refine ⟨w2, q2, by show a2.defers = []; rw [q3, p3]; exact h.defers, h.same.trans hsm, h.os, h.tape, h.output, by rw [setCell_size]; exact h.hsize, fun k' hk' hn => ?_⟩
    rw [setCell_other (by intro e; subst e; exact hn ⟨g2, g3⟩)]
    exact h.block k' hk' hn
  · intro t v ev
    have hm : t ∈ [0, 6, 7, 8, 9, tk] := by
      have := Fr.get_mem ev
      simp only [gwT, List.mem_cons, List.not_mem_nil, or_false, Prod.mk.injEq] at this
      rcases this with ⟨rfl, _⟩ | ⟨rfl, _⟩ | ⟨rfl, _⟩ <;> simp
    obtain ⟨u, b1, b2⟩ := hF t v ev
    refine ⟨u, by show a2.tmps[t]? = _; rw [q4 t hm, p4 t hm]; exact b1, ?_⟩
    refine lo_turn ?_ ?_ b2
    · rfl
    · have := Fr.get_mem ev
      simp only [gwT, List.mem_cons, List.not_mem_nil, or_false, Prod.mk.injEq] at this
      rcases this with ⟨_, rfl⟩ | ⟨_, rfl⟩ | ⟨_, rfl⟩
      · exact .inr ⟨_, rfl⟩
      · exact .inl rfl
      · exact .inl rfl
end
end Go.Proofs.Ytbcikaoklpekhaa.Ab
namespace Go.Proofs.Ytbcikaoklpekhaa.Ab
open Go Go.RowKit
set_option linter.unusedVariables false
set_option linter.unusedSimpArgs false
set_option maxRecDepth 100000
/-! ### Pieces that keep something -/
section
variable (P : Program) (I : Fr → Act → World → Prop)
def IL (l : List Code) (F : Fr) (e : Exit) (F' : Fr) : Prop := ∀ (a : Act) (w : World), I F a w → ∀ (Q : Exit → Act → World → Prop) (rest : List Code), (∀ a' w', I F' a' w' → Exit.then (wpL P Q rest) Q e a' w') → wpL P Q (l ++ rest) a w
def IC (c : Code) (F : Fr) (e : Exit) (F' : Fr) : Prop := ∀ (a : Act) (w : World), I F a w → ∀ (Q : Exit → Act → World → Prop), (∀ a' w', I F' a' w' → Q e a' w') → c.wp P Q a w
end
section
variable {P : Program} {I : Fr → Act → World → Prop} {F F1 F' : Fr} {e : Exit}
theorem IL.app {l l' : List Code} (h : IL P I l F .normal F1) (k : IL P I l' F1 e F') : IL P I (l ++ l') F e F' := by
  intro a w ha Q rest hk
  rw [List.append_assoc]
  exact h a w ha Q (l' ++ rest) fun a1 w1 h1 => k a1 w1 h1 Q rest hk
theorem IL.left {l : List Code} (h : IL P I l F e F') (he : e ≠ .normal) (l' : List Code) : IL P I (l ++ l') F e F' := by
  intro a w ha Q rest hk
  rw [List.append_assoc]
  refine h a w ha Q (l' ++ rest) fun a1 w1 h1 => ?_
  have := hk a1 w1 h1
  cases e <;> first | exact absurd rfl he | exact this
theorem IL.code {c : Code} (h : IL P I (flat c) F e F') : IC P I c F e F' := by
  intro a w ha Q hk
  refine wp_of_flat ?_
  have := h a w ha Q [] fun a1 w1 h1 => by
    have := hk a1 w1 h1
    cases e <;> exact this
  rwa [List.append_nil] at this
theorem IC.row {c : Code} (h : IC P I c F e F') : IL P I [c] F e F' := fun a w ha Q rest hk => h a w ha _ hk
theorem IC.block {id : Nat} {c : Code} (h : IC P I c F e F') : IC P I (.block id c) F (outOf id e) F' := by
  intro a w ha Q hk
  refine wp_block (h a w ha _ fun a1 w1 h1 => ?_)
  have := hk a1 w1 h1
  cases e with
  | exit i =>
    simp only [outOf, Exit.inBlock] at this ⊢
    split at this
    · rename_i hi; rw [if_pos hi]; exact this
    · rename_i hi; rw [if_neg hi]; exact this
  | _ => exact this
theorem IC.loop {c : Code} (F : Nat → Fr) (m : Nat) (he : e ≠ .normal) (hs : ∀ k, k < m → IC P I c (F k) .normal (F (k + 1))) (hend : IC P I c (F m) e F') : IC P I (.loop c) (F 0) e F' := by
  intro a w ha Q hk
  have key : ∀ (d k : Nat), k + d = m → ∀ (a : Act) (w : World), I (F k) a w → Code.rounds P c Q (d + 1) a w := by
    intro d
    induction d with
    | zero =>
      intro k hkm a w ha
      obtain rfl : k = m := by omega
      rw [rounds_succ]
      exact hend a w ha _ fun a1 w1 h1 => by
        have := hk a1 w1 h1
        cases e <;> first | exact this | exact absurd rfl he
    | succ d ih =>
      intro k hkm a w ha
      rw [rounds_succ]
      exact hs k (by omega) a w ha _ fun a1 w1 h1 => ih (k + 1) (by omega) a1 w1 h1
  exact wp_loop_rounds (m + 1) (key m 0 (by omega) a w ha)
theorem IL.drop_ {l : List Code} (hI : ∀ (F F' : Fr) (a : Act) (w : World), (∀ x ∈ F', F.get x.1 = some x.2) → I F a w → I F' a w) (h : IL P I l F e F1) (hF : ∀ x ∈ F', F1.get x.1 = some x.2) : IL P I l F e F' :=
  fun a w ha Q rest hk => h a w ha Q rest fun a1 w1 h1 => hk a1 w1 (hI _ _ _ _ hF h1)
end
theorem ofNat_lt {i n : Nat} (h : i < n) : Int.ofNat i < ((n : Nat) : Int) := by
  show (i : Int) < (n : Int)
  omega
/-! ### The loops -/
section
variable (s1 s3 r0 N : Nat) (L : List OpR) (a5 : Act) (w5 : World)
def gI (F : Fr) (a : Act) (w : World) : Prop := WK s1 s3 r0 N L a5 w5 a w ∧ FR (mPart s1 s3 r0 N w) F a.tmps
end
section
variable {s1 s3 r0 N : Nat} {L : List OpR} {a5 : Act} {w5 : World}
theorem gI_sub {F F' : Fr} {a : Act} {w : World} (hF : ∀ x ∈ F', F.get x.1 = some x.2) (h : gI s1 s3 r0 N L a5 w5 F a w) : gI s1 s3 r0 N L a5 w5 F' a w :=
  ⟨h.1, fun t v ev => h.2 t v (hF (t, v) (Fr.get_mem ev))⟩
theorem IL.quiet {l : List Code} {F F2 : Fr} {e : Exit} {ts : List Nat} (hts : F2.map (·.1) = ts) (hfc : l.all (freeC [0, 6, 8]) = true) (hrun : gwR1 l F L ts = some (e, F2.map (fun e => some e.2), rowB1 L)) (hF2 : ∀ x ∈ F2, Lo x.2) : IL Try.prog (gI s1 s3 r0 N L a5 w5) l F e F2 :=
  fun a w ha Q rest hk => ha.1.quiet hts hfc hrun hF2 ha.2 rest fun a' w' h1 h2 => hk a' w' ⟨h1, h2⟩
theorem gwS_lo (m : Nat) (i : Int) : ∀ x ∈ gwS m i, Lo x.2 := by
  intro x hx
  simp only [gwS, List.mem_cons, List.not_mem_nil, or_false] at hx
  rcases hx with rfl | rfl
  · exact .inr ⟨_, rfl⟩
  · exact .inl rfl
theorem gwT_lo (m : Nat) (i k : Int) (t : Nat) : ∀ x ∈ gwT m i k t, Lo x.2 := by
  intro x hx
  simp only [gwT, List.mem_cons, List.not_mem_nil, or_false] at hx
  rcases hx with rfl | rfl | rfl
  · exact .inr ⟨_, rfl⟩
  · exact .inl rfl
  · exact .inl rfl
theorem looseL_len (l : List OpR) : (looseL l).length = l.length * 13 := by
  induction l with
  | nil => rfl
  | cons r l ih => simp only [looseL, List.flatMap_cons, List.length_append, List.length_cons] at ih ⊢; rw [ih]; simp [looseC, opC]; omega
theorem hdV_at {l : List OpR} {i : Nat} {r : OpR} (h : l[i]? = some r) : hdV (looseL l) i 12 = LO r.ctrl.length ∧ hdV (looseL l) i 10 = LO r.addr.length := by
  have hd : (looseL l).drop (i * 13) = looseC r ++ looseL (l.drop (i + 1)) := by
    have hk : i < l.length := (List.getElem?_eq_some_iff.1 h).1
    have hr : l[i] = r := (List.getElem?_eq_some_iff.1 h).2
    unfold looseL
    rw [flat_drop (f := looseC) (fun x => rfl), List.drop_eq_getElem_cons hk, hr, List.flatMap_cons]
  have key : ∀ f, hdV (looseL l) i f = (looseC r ++ looseL (l.drop (i + 1))).getD f undef := fun f => by
    unfold hdV
    rw [← hd, List.getD_eq_getElem?_getD, List.getD_eq_getElem?_getD, List.getElem?_drop, Nat.zero_add]
  exact ⟨by rw [key]; rfl, by rw [key]; rfl⟩
theorem hdG_at {l : List OpR} {m i f : Nat} (hm : l.length = m + 1) (hi : i < l.length) (hf : f < 13) (z : Res) : hdG (looseL l) m i f z = z := by
  unfold hdG
  rw [decide_eq_true (ofNat_lt (show i < m + 1 by omega)), cond_true]
  have : Nat.blt (0 + i * 13 + f) (looseL l).length = true := by rw [Nat.blt_eq, looseL_len]; omega
  rw [this]; rfl
/-- The two loops of a row's operation are alike. -/
structure Alike (c : Code) (ops : List Oper) (tk tl tp f xit bid rid : Nat) (g : OpR → Nat) : Prop where
  flat_ : flat c = (flat c).take 2 ++ ([.block bid (.region rid ops.toArray false)] ++ (flat c).drop 3)
  hg : ∀ (l : List OpR) (i : Nat) (r : OpR), l[i]? = some r → hdV (looseL l) i f = LO (g r)
  tk_ : tk ≠ 7 ∧ tk ≠ 9
  f_ : f < 13
  fc1 : ((flat c).take 2).all (freeC [0, 6, 8]) = true
  fc3 : ((flat c).drop 3).all (freeC [0, 6, 8]) = true
  n1 : ((ops.take 5).all fun o => notIn [0, 6, 7, 8, 9, tk] o.dst) = true
  n2 : (((ops.drop 5).take 2).all fun o => notIn [0, 6, 7, 8, 9, tk] o.dst) = true
  r1 : ∀ (l : List OpR) (m i k : Nat), gwR1 ((flat c).take 2) (gwT m (Int.ofNat i) (Int.ofNat k) tk) l [7, 9, tk] =
    hdG (looseL l) m i f (bif isLen (hdV (looseL l) i f) then bif decide (Int.ofNat k < lenOf (hdV (looseL l) i f)) then some (.normal, (gwT m (Int.ofNat i) (Int.ofNat k) tk).map (fun e => some e.2), rowB1 l) else some (.exit xit, (gwT m (Int.ofNat i) (Int.ofNat k) tk).map (fun e => some e.2), rowB1 l) else none)
  r3 : ∀ (l : List OpR) (m i k : Nat), gwR1 ((flat c).drop 3) (gwT m (Int.ofNat i) (Int.ofNat k) tk) l [7, 9, tk] = some (.normal, (gwT m (Int.ofNat i) (w64 (Int.ofNat k + 1)) tk).map (fun e => some e.2), rowB1 l)
  e1 : ∀ (l : List OpR) (m i k : Nat), gwE0 ops (ops.take 5) (gwT m (Int.ofNat i) (Int.ofNat k) tk) (rowB1 l) tl = some (decide (Int.ofNat i < ((m + 1 : Nat) : Int)) && ((Nat.blt (0 + i * 13 + f) (looseL l).length && true) && true), some (hdV (looseL l) i f))
  e2 : ∀ (l : List OpR) (k n : Nat), gwE0 ops ((ops.drop 5).take 2) [(tk, .int .i64 (Int.ofNat k)), (tl, LO n)] (rowB1 l) tp = some ((decide (Int.ofNat k < Int.ofNat n) && true) && true, some (gp ((List.replicate n opq).drop (k * 1))))
  st : ∃ o, ops = ops.take 5 ++ ((ops.drop 5).take 2 ++ [o]) ∧ o.op = .store 3 (.tmp tp) (.const (.int .i64 99)) ∧ o.guard = none ∧ o.dst = none
theorem Alike.round {c : Code} {ops : List Oper} {tk tl tp f xit bid rid : Nat} {g : OpR → Nat} (A : Alike c ops tk tl tp f xit bid rid g) {m i : Nat} {r : OpR} (hm : L.length = m + 1) (hi : L[i]? = some r) (hsz : g r ≤ 1000) {k : Nat} (hk : k < g r) :
    IC Try.prog (gI s1 s3 r0 N L a5 w5) c (gwT m (Int.ofNat i) (Int.ofNat k) tk) .normal (gwT m (Int.ofNat i) (Int.ofNat (k + 1)) tk) := by
  have hil : i < L.length := (List.getElem?_eq_some_iff.1 hi).1
  have hv := A.hg L i r hi
  have hl : lenOf (LO (g r)) = Int.ofNat (g r) := rfl
  have x1 := A.r1 L m i k
  rw [hdG_at hm hil A.f_, hv, hl, decide_eq_true (show Int.ofNat k < Int.ofNat (g r) by simp; omega), cond_true] at x1
  have x3 := A.r3 L m i k
  rw [w64_of (by simp; omega) (by simp; omega)] at x3
  have y1 := A.e1 L m i k
  rw [decide_eq_true (ofNat_lt (show i < m + 1 by omega)), show Nat.blt (0 + i * 13 + f) (looseL L).length = true by rw [Nat.blt_eq, looseL_len]; have := A.f_; omega, hv] at y1
  have y2 := A.e2 L k (g r)
  rw [decide_eq_true (show Int.ofNat k < Int.ofNat (g r) by simp; omega)] at y2
  obtain ⟨o, o1, o2, o3, o4⟩ := A.st
  have s1' : IL Try.prog (gI s1 s3 r0 N L a5 w5) ((flat c).take 2) _ .normal _ := IL.quiet (ts := [7, 9, tk]) rfl A.fc1 x1 (gwT_lo _ _ _ _)
  have s2 : IC Try.prog (gI s1 s3 r0 N L a5 w5) (.region rid ops.toArray false) (gwT m (Int.ofNat i) (Int.ofNat k) tk) .normal (gwT m (Int.ofNat i) (Int.ofNat k) tk) :=
    fun a w ha Q hq => ha.1.write o1 o2 o3 o4 A.n1 A.n2 y1 y2 hk A.tk_ ha.2 fun a' w' h1 h2 => hq a' w' ⟨h1, h2⟩
  have s3' : IL Try.prog (gI s1 s3 r0 N L a5 w5) ((flat c).drop 3) (gwT m (Int.ofNat i) (Int.ofNat k) tk) .normal (gwT m (Int.ofNat i) (Int.ofNat (k + 1)) tk) := IL.quiet (ts := [7, 9, tk]) rfl A.fc3 x3 (gwT_lo _ _ _ _)
  have all := s1'.app (IL.app ((IC.block (id := bid) s2).row) s3')
  rw [← A.flat_] at all
  exact IL.code all
theorem Alike.last {c : Code} {ops : List Oper} {tk tl tp f xit bid rid : Nat} {g : OpR → Nat} (A : Alike c ops tk tl tp f xit bid rid g) {m i : Nat} {r : OpR} (hm : L.length = m + 1) (hi : L[i]? = some r) :
    IC Try.prog (gI s1 s3 r0 N L a5 w5) c (gwT m (Int.ofNat i) (Int.ofNat (g r)) tk) (.exit xit) (gwT m (Int.ofNat i) (Int.ofNat (g r)) tk) := by
  have hil : i < L.length := (List.getElem?_eq_some_iff.1 hi).1
  have hv := A.hg L i r hi
  have hl : lenOf (LO (g r)) = Int.ofNat (g r) := rfl
  have x1 := A.r1 L m i (g r)
  rw [hdG_at hm hil A.f_, hv, hl, decide_eq_false (show ¬ Int.ofNat (g r) < Int.ofNat (g r) by simp), cond_false] at x1
  have s1' : IL Try.prog (gI s1 s3 r0 N L a5 w5) ((flat c).take 2) _ (.exit xit) _ := IL.quiet (ts := [7, 9, tk]) rfl A.fc1 x1 (gwT_lo _ _ _ _)
  have all := s1'.left (by intro h; cases h) ([.block bid (.region rid ops.toArray false)] ++ (flat c).drop 3)
  rw [← A.flat_] at all
  exact IL.code all
theorem Alike.loop {c : Code} {ops : List Oper} {tk tl tp f xit bid rid : Nat} {g : OpR → Nat} (A : Alike c ops tk tl tp f xit bid rid g) {m i : Nat} {r : OpR} (hm : L.length = m + 1) (hi : L[i]? = some r) (hsz : g r ≤ 1000) :
    IL Try.prog (gI s1 s3 r0 N L a5 w5) [.block xit (.loop c)] (gwT m (Int.ofNat i) 0 tk) .normal (gwT m (Int.ofNat i) (Int.ofNat (g r)) tk) := by
  have := (IC.block (id := xit) (IC.loop (P := Try.prog) (I := gI s1 s3 r0 N L a5 w5) (c := c) (fun k => gwT m (Int.ofNat i) (Int.ofNat k) tk) (g r) (e := .exit xit) (by intro h; cases h) (fun k hk => A.round hm hi hsz hk) (A.last hm hi))).row
  have he : outOf xit (.exit xit) = .normal := by simp [outOf]
  rw [he] at this
  exact this
end
def stO (ops : List Oper) : Oper := match ops[7]? with
  | some o => o
  | none => ⟨none, .move (.tmp 0), 0, "", #[], none⟩
theorem alikeC : Alike gwC opC3 10 73 75 12 2 3 18 (fun r => r.ctrl.length) :=
  ⟨gwC_flat, fun l i r h => (hdV_at h).1, by omega, by omega, fc_C1, fc_C3, fo_C1, fo_C2, fun l m i k => gx_C1 _ _ _ _ _ _ _ _ (looseL l) m i k, fun l m i k => gx_C3 _ _ _ _ _ _ _ _ (looseL l) m i k,
    fun l m i k => by kernel_rfl, fun l k n => by kernel_rfl, ⟨stO opC3, by kernel_rfl, by kernel_rfl, by kernel_rfl, by kernel_rfl⟩⟩
theorem alikeA : Alike gwA opA3 11 90 92 10 4 5 22 (fun r => r.addr.length) :=
  ⟨gwA_flat, fun l i r h => (hdV_at h).2, by omega, by omega, fc_A1, fc_A3, fo_A1, fo_A2, fun l m i k => gx_A1 _ _ _ _ _ _ _ _ (looseL l) m i k, fun l m i k => gx_A3 _ _ _ _ _ _ _ _ (looseL l) m i k,
    fun l m i k => by kernel_rfl, fun l k n => by kernel_rfl, ⟨stO opA3, by kernel_rfl, by kernel_rfl, by kernel_rfl, by kernel_rfl⟩⟩
section
variable {s1 s3 r0 N : Nat} {L : List OpR} {a5 : Act} {w5 : World}
theorem gw_rowW {m i : Nat} {r : OpR} (hm : L.length = m + 1) (hi : L[i]? = some r) (h1 : r.ctrl.length ≤ 1000) (h2 : r.addr.length ≤ 1000) (hL : L.length ≤ 1000) : IC Try.prog (gI s1 s3 r0 N L a5 w5) gwL (gwS m (Int.ofNat i)) .normal (gwS m (Int.ofNat (i + 1))) := by
  have hil : i < L.length := (List.getElem?_eq_some_iff.1 hi).1
  have x1 := gx_L1 numF lwG8 (gw9 nilV []) nilV [] gw10 gw11 gw12 (looseL L) m i
  rw [decide_eq_true (show Int.ofNat i < Int.ofNat (m + 1) from ofNat_lt (by omega)), cond_true] at x1
  have x3 := gx_L3 numF lwG8 (gw9 nilV []) nilV [] gw10 gw11 gw12 (looseL L) m i
  rw [w64_of (by simp; omega) (by simp; omega)] at x3
  have q1 : IL Try.prog (gI s1 s3 r0 N L a5 w5) ((flat gwL).take 2) _ .normal _ := IL.quiet (ts := [7, 9]) rfl fc_L1 x1 (gwS_lo _ _)
  have q3 : IL Try.prog (gI s1 s3 r0 N L a5 w5) ((flat gwL).drop 3) (gwS m (Int.ofNat i)) .normal (gwS m (Int.ofNat (i + 1))) := IL.quiet (ts := [7, 9]) rfl fc_L3 x3 (gwS_lo _ _)
  have i1 : IL Try.prog (gI s1 s3 r0 N L a5 w5) ((flat gwI).take 1) (gwS m (Int.ofNat i)) .normal (gwT m (Int.ofNat i) 0 10) := IL.quiet (ts := [7, 9, 10]) rfl fc_I1 (gx_I1 numF lwG8 (gw9 nilV []) nilV [] gw10 gw11 gw12 (looseL L) m (Int.ofNat i)) (gwT_lo _ _ _ _)
  have i3 : IL Try.prog (gI s1 s3 r0 N L a5 w5) (((flat gwI).drop 2).take 1) (gwS m (Int.ofNat i)) .normal (gwT m (Int.ofNat i) 0 11) := IL.quiet (ts := [7, 9, 11]) rfl fc_I3 (gx_I3 numF lwG8 (gw9 nilV []) nilV [] gw10 gw11 gw12 (looseL L) m (Int.ofNat i)) (gwT_lo _ _ _ _)
  have toS : ∀ (k : Int) (t : Nat), ∀ x ∈ gwS m (Int.ofNat i), (gwT m (Int.ofNat i) k t).get x.1 = some x.2 := fun k t x hx => by
    simp only [gwS, List.mem_cons, List.not_mem_nil, or_false] at hx
    rcases hx with rfl | rfl <;> rfl
  have lC := IL.drop_ (I := gI s1 s3 r0 N L a5 w5) (fun _ _ _ _ hF h => gI_sub hF h) (alikeC.loop hm hi h1) (toS _ _)
  have lA := IL.drop_ (I := gI s1 s3 r0 N L a5 w5) (fun _ _ _ _ hF h => gI_sub hF h) (alikeA.loop hm hi h2) (toS _ _)
  have mid := i1.app (IL.app (IL.app lC i3) lA)
  rw [← gwI_flat] at mid
  have all := q1.app (IL.app ((IC.block (id := 1) (IL.code mid)).row) q3)
  rw [← gwL_flat] at all
  exact IL.code all
theorem gw_rowEnd {m : Nat} (hm : L.length = m + 1) : IC Try.prog (gI s1 s3 r0 N L a5 w5) gwL (gwS m (Int.ofNat (m + 1))) (.exit 0) (gwS m (Int.ofNat (m + 1))) := by
  have x1 := gx_L1 numF lwG8 (gw9 nilV []) nilV [] gw10 gw11 gw12 (looseL L) m (m + 1)
  rw [decide_eq_false (show ¬ Int.ofNat (m + 1) < Int.ofNat (m + 1) by simp), cond_false] at x1
  have q1 : IL Try.prog (gI s1 s3 r0 N L a5 w5) ((flat gwL).take 2) _ (.exit 0) _ := IL.quiet (ts := [7, 9]) rfl fc_L1 x1 (gwS_lo _ _)
  have all := q1.left (by intro h; cases h) ([.block 1 gwI] ++ (flat gwL).drop 3)
  rw [← gwL_flat] at all
  exact IL.code all
/-- All of part's lists written over. -/
theorem gw_writes {m : Nat} (hm : L.length = m + 1) (hL : L.length ≤ 1000) (hr : ∀ r ∈ L, r.ctrl.length ≤ 1000 ∧ r.addr.length ≤ 1000) : IL Try.prog (gI s1 s3 r0 N L a5 w5) [.block 0 (.loop gwL)] (gwS m 0) .normal (gwS m (Int.ofNat (m + 1))) := by
  have := (IC.block (id := 0) (IC.loop (P := Try.prog) (I := gI s1 s3 r0 N L a5 w5) (c := gwL) (fun i => gwS m (Int.ofNat i)) (m + 1) (e := .exit 0) (by intro h; cases h) (fun i hi => by
    have hil : i < L.length := by omega
    have he : L[i]? = some L[i] := List.getElem?_eq_getElem hil
    have hb := hr _ (List.getElem_mem hil)
    exact gw_rowW hm he hb.1 hb.2 hL) (gw_rowEnd hm))).row
  exact this
end
end Go.Proofs.Ytbcikaoklpekhaa.Ab
namespace Go.Proofs.Ytbcikaoklpekhaa.Ab
open Go Go.RowKit
set_option linter.unusedVariables false
set_option linter.unusedSimpArgs false
set_option maxRecDepth 100000
theorem ops_call (l : List Item) (hl : l.length ≤ 1000000) : CallOK Try.prog 0 9 [gs 6 (itemsC l) l.length] [] (sliV 1 (runF l).ops.length 13) (stH (runF l)) := by
  have h := op9_run (hgG [gs 6 (itemsC l) l.length] []) (stR (runF l)) (L1 (runF l).ctrl) (sliV 1 (runF l).ops.length 13) (sliV 2 (runF l).ats.length 1) (rowB (runF l).ops.length (opsC (runF l).ops) 32) (rowB (runF l).ats.length ((runF l).ats.map (Value.int .i64)) 3) (itemsC l) l.length
  rw [hgG_true, cond_true] at h
  obtain ⟨v, H', h1, h2, _⟩ := callK_sound (opΦ_ok (hang_ok l hl)) _ _ _ _ _ _ _ h
  cases h1
  exact h2
theorem items_take (l : List Item) (k : Nat) (hk : k ≤ l.length) : (itemsC l).take (k * 6) = itemsC (l.take k) := by
  have e : itemsC l = itemsC (l.take k) ++ itemsC (l.drop k) := by
    unfold itemsC; rw [← List.flatMap_append, List.take_append_drop]
  have len : ∀ l : List Item, (itemsC l).length = l.length * 6 := fun l => by
    induction l with
    | nil => rfl
    | cons x l ih => simp only [itemsC, List.flatMap_cons, List.length_append, List.length_cons] at ih ⊢; rw [ih]; simp [itemC]; omega
  rw [e, List.take_left' (by rw [len, List.length_take, Nat.min_eq_left hk])]
theorem items_plain (l : List Item) : ∀ v ∈ itemsC l, plain v = true ∧ ∀ x, v ≠ .int .i64 x := fun v hv => by
  obtain ⟨x, _, h⟩ := List.mem_flatMap.1 hv
  simp only [itemC, List.mem_cons, List.not_mem_nil, or_false] at h
  rcases h with rfl | rfl | rfl | rfl | rfl | rfl <;> exact ⟨rfl, fun _ h => by cases h⟩
theorem RowS.of_seeA {P : Program} {C : Ctx} (hC : CtxOK P C) {m j lo n f : Nat} {p : Nat → Bool} {l : List Code} {F F2 : Fr} {H H2 : Heap} {e : Exit} {ts ks : List Nat} (hts : F2.map (·.1) = ts) (hfc : l.all (freeC ks) = true)
    (h : runL (C.at_ f) (callK C m) j lo n f p l F H (seeA ts) = some (e, F2.map (fun e => some e.2), H2)) : RowS P lo n ks l F H e F2 H2 := by
  subst hts
  obtain ⟨e1, F1, H1, h1, h2⟩ := runL_same (hC.at_ f) (call := callK C m) (fun lo f args H K r h => callK_sound hC m lo f args H K r h) l hfc F H _ h
  simp only [seeA, Option.some.injEq, Prod.mk.injEq] at h1
  obtain ⟨rfl, h3, rfl⟩ := h1
  intro M a w hR hF hs hd Q rest hk
  refine h2 M a w hR hF hs hd Q rest fun M' a' w' hx hR' hK hF' hs' hd' hsm => hk M' a' w' hx hR' hK (fun t v ev => ?_) hs' hd' hsm
  exact hF' t v (see_slots h3 (t, v) (Fr.get_mem ev))
abbrev Facts := Nat → Nat → List Value → Prop
/-- Where nothing is told of blocks. -/
theorem RowS.at0 {P : Program} {n : Nat} {ts : List Nat} {l : List Code} {F F2 : Fr} {H2 : Heap} {e : Exit} (h : RowS P 0 n ts l F [] e F2 H2) {Z : Facts} {a : Act} {w : World} (hZ : ∀ r o ys, Z r o ys → Froz w r o ys) (hF : FR ⟨[], Z⟩ F a.tmps) (hs : a.tmps.size = n) (hd : a.defers = []) {Q : Exit → Act → World → Prop} (rest : List Code)
    (hk : ∀ (M' : Mp) (a' : Act) (w' : World), Below w.heap.size w w' → (∀ r o ys, Z r o ys → M'.fz r o ys) → (∀ r o ys, M'.fz r o ys → Z r o ys ∨ w.heap.size ≤ r) → Rel 0 M' H2 w' → FR M' F2 a'.tmps → a'.tmps.size = n → a'.defers = [] → Same ts a a' → Exit.then (wpL P Q rest) Q e a' w') : wpL P Q (l ++ rest) a w := by
  refine h ⟨[], Z⟩ a w (rel_fz hZ 0) hF hs hd Q rest fun M' a' w' hx hR hK hF' hs' hd' hsm => ?_
  refine hk M' a' w' (hK.below (Nat.zero_le _)) hx.le.fz (fun r o ys e => ?_) hR hF' hs' hd' hsm
  rcases hx.newfz r o ys e with h | h | ⟨j, q, _, h, _⟩
  · exact .inl h
  · exact .inr h
  · simp at h
/-! ### What is told of part at first -/
theorem L1_LO {M1 : Mp} {w1 : World} {s1 r0 s N : Nat} {H1 : Heap} {Z : Facts} {cells : List Value} (hR : Rel 0 M1 H1 w1) (hp : M1.pl[1]? = some (r0, s, N)) (hZ : ∀ r o ys, M1.fz r o ys → Z r o ys ∨ s1 ≤ r) (hZ2 : ∀ r o ys, Z r o ys → ys = cells) (hc : ∀ v ∈ cells, ∀ x, v ≠ .int .i64 x)
    {xs : List Int} {u : Value} (hv : VR M1 (L1 xs) u) {w : World} (hb : ∀ r o ys, Froz w1 r o ys → Froz w r o ys) : VR (mPart s1 w1.heap.size r0 N w) (LO xs.length) u := by
  rcases gs_inv hv with ⟨h1, h2, rfl⟩ | ⟨h1, h2, ad, c, rfl⟩ | ⟨ys, r, o, j, c, f1, f2, f3, f4, f5, rfl⟩
  · have : xs = [] := by simpa using h1
    subst this; exact .gnil _
  · have : xs = [] := by simpa using h1
    subst this; exact .gemp _ _ _
  · have hys : (ys.drop j).take (xs.length * 1) = xs.map (Value.int .i64) := (plains_eq (M := M1) (p := plain) (fun v v' h k => plain_eq h k) (by simp [List.all_map, plain, plainN, List.all_eq_true]) f5)
    rcases Nat.eq_zero_or_pos xs.length with h0 | h0
    · have : xs = [] := List.eq_nil_of_length_eq_zero h0
      subst this; exact .gemp _ _ _
    · obtain ⟨g1, g2⟩ := hR.froz r o ys f1
      have hs : s1 ≤ r := by
        rcases hZ r o ys f1 with h | h
        · exfalso
          have := hZ2 r o ys h
          subst this
          have h1 : ((ys.drop j).take (xs.length * 1))[0]? = some (.int .i64 xs[0]) := by
            rw [hys, List.getElem?_map, List.getElem?_eq_getElem h0]; rfl
          have hm := List.mem_of_mem_drop (List.mem_of_mem_take (List.mem_of_getElem? h1))
          exact hc _ hm _ rfl
        · exact h
      have hsub := g1.sub j (xs.length * 1) f2
      rw [hys] at hsub
      have := VR.gsl (M := mPart s1 w1.heap.size r0 N w) (xs := List.replicate xs.length opq) (ys := xs.map (Value.int .i64)) (r := r) (o := o + j) (k := 0) (n := xs.length) (c := c) (z := 1) ⟨hb _ _ _ hsub, hs, g1.lt, fun e => g2 1 _ (by omega) hp e.symm, fun y hy => by
        obtain ⟨n, _, rfl⟩ := List.mem_map.1 hy
        exact ⟨n, rfl⟩⟩ (by simp) f3 (by simp) (by
        refine VRs.of (by simp) fun i x y hx hy => ?_
        have hxe : x = opq := List.eq_of_mem_replicate (List.mem_of_getElem? hx)
        rw [List.drop_zero] at hy
        obtain ⟨n, _, rfl⟩ := List.mem_map.1 (List.mem_of_mem_take (List.mem_of_getElem? hy))
        rw [hxe]; exact .opq _ rfl)
      exact this
theorem loose_VRs {M M' : Mp} (hL : ∀ xs u, VR M (L1 xs) u → VR M' (LO xs.length) u) : ∀ (ops : List OpR) (us : List Value), VRs M (opsC ops) us → VRs M' (looseL ops) us
  | [], us, h => by cases h; exact .nil
  | r :: ops, us, h => by
    have pl : ∀ {x u : Value}, plain x = true → VR M x u → VR M' x u := fun hx hv => by rw [plain_eq hx hv]; exact plain_VR hx
    simp only [opsC, List.flatMap_cons, OpR.cells, opC, List.cons_append, List.nil_append] at h
    simp only [looseL, List.flatMap_cons, looseC, opC, List.cons_append, List.nil_append]
    cases h with | cons a1 h => cases h with | cons a2 h => cases h with | cons a3 h => cases h with | cons a4 h => cases h with | cons a5 h => cases h with | cons a6 h => cases h with | cons a7 h =>
    cases h with | cons a8 h => cases h with | cons a9 h => cases h with | cons a10 h => cases h with | cons a11 h => cases h with | cons a12 h => cases h with | cons a13 h =>
    exact .cons (pl rfl a1) (.cons (pl rfl a2) (.cons (pl rfl a3) (.cons (pl rfl a4) (.cons (pl rfl a5) (.cons (pl rfl a6) (.cons (pl rfl a7) (.cons (pl rfl a8) (.cons (pl rfl a9) (.cons (pl rfl a10) (.cons (hL _ _ a11) (.cons (hL _ _ a12) (.cons (hL _ _ a13) (loose_VRs hL ops _ h)))))))))))))
theorem PartOK.start {M1 : Mp} {w1 w : World} {s1 r0 s N : Nat} {H1 : Heap} {Z : Facts} {cells : List Value} (hR : Rel 0 M1 H1 w1) (hp : M1.pl[1]? = some (r0, s, N)) (hZ : ∀ r o ys, M1.fz r o ys → Z r o ys ∨ s1 ≤ r) (hZ2 : ∀ r o ys, Z r o ys → ys = cells) (hc : ∀ v ∈ cells, ∀ x, v ≠ .int .i64 x)
    {ops : List OpR} (hb : H1[1]? = some (some ⟨opsC ops, 32, none⟩)) (hw : Below w1.heap.size w1 w) : PartOK s1 w1.heap.size r0 N (looseL ops) w := by
  have hs0 : s = 0 := hR.own 1 _ (by omega) hp
  subst hs0
  obtain ⟨r, s, cs, t, fz, g1, g2, g3, g4, g5, g6⟩ := hR.blk 1 _ hb
  rw [hp] at g1; cases g1
  have hr := hR.dom 1 _ hp
  have hbf : ∀ r o ys, Froz w1 r o ys → Froz w r o ys := fun r o ys h => h.of (hw.block r h.lt)
  refine ⟨rfl, fun i p e => ?_, fun i b e => ?_, fun i p hi e => ?_, fun i j b b' p q hij e1 e2 _ _ _ => ?_, fun r o ys e => ⟨e.1, fun i p hi ep => ?_⟩⟩
  · have hi := (List.getElem?_eq_some_iff.1 e).1
    simp [mPart] at hi; subst hi
    simp [mPart] at e; subst e
    exact Nat.lt_of_lt_of_le hr hw.size
  · have hi := (List.getElem?_eq_some_iff.1 e).1
    simp at hi; subst hi
    simp at e; subst e
    refine ⟨_, 0, cs, t, fz, rfl, by rw [hw.block _ hr]; exact g2, fun h => absurd h (by omega), by simp only [looseL_len]; rw [opsC_len] at g4; exact g4, ?_, fun _ _ h => by cases h⟩
    have hl : (looseL ops).length = (opsC ops).length := by rw [looseL_len, opsC_len]
    simp only [hl]
    exact loose_VRs (fun xs u hv => L1_LO hR hp hZ hZ2 hc hv hbf) ops _ g5
  · have := (List.getElem?_eq_some_iff.1 e).1
    simp [mPart] at this; omega
  · have h1 := (List.getElem?_eq_some_iff.1 e1).1
    have h2 := (List.getElem?_eq_some_iff.1 e2).1
    simp at h1 h2; omega
  · have := (List.getElem?_eq_some_iff.1 ep).1
    simp [mPart] at this; omega
/-- What is told of a row of a told block, told by what lies there. -/
theorem row_gs {M1 : Mp} {w1 : World} {H1 : Heap} {l : List Value} {n : Nat} {u : Value} (hR : Rel 0 M1 H1 w1) (hb : 0 < n → H1[1]? = some (some ⟨l, 32, none⟩)) (hl : l.length = n * 13) (hg : ∀ x ∈ l, Gh x) (hv : VR M1 (sliV 1 n 13) u) : VR ⟨[], fun r o ys => Froz w1 r o ys⟩ (gs 13 l n) u := by
  cases n with
  | zero =>
    have : l = [] := by simpa using hl
    subst this
    cases hv; exact .gnil _
  | succ n =>
    obtain ⟨r, s, N, c, h1, h2, h3, rfl⟩ := slice_inv (i := 1) (n := n + 1) (z := 13) (by omega) hv
    obtain ⟨r', s', cs, t, fz, g1, g2, g3, g4, g5, g6⟩ := hR.blk 1 _ (hb (by omega))
    rw [h1] at g1; cases g1
    simp only at g3 g4 g5
    have hcl : ((cs.drop s).take l.length).length = l.length := by simp; omega
    have := VR.gsl (M := ⟨[], fun r o ys => Froz w1 r o ys⟩) (xs := l) (ys := (cs.drop s).take l.length) (r := r) (o := s) (k := 0) (n := n + 1) (c := c) (z := 13) ⟨cs, t, fz, g2, by rw [hcl]; exact g4, by rw [hcl], by rw [(g3 (by omega)).2]; exact Unfz.zero _ _⟩ (by rw [hcl, hl]; omega) h2 (by rw [hl]) (by
      rw [List.drop_zero, List.take_of_length_le (by rw [hcl, hl]; exact Nat.le_refl _)]
      exact (Gh.vrs hg g5).le (Le.of_nil (M := ⟨[], fun r o ys => Froz w1 r o ys⟩) fun r o ys e => (hR.froz r o ys e).1))
    simpa using this
end Go.Proofs.Ytbcikaoklpekhaa.Ab
namespace Go.Proofs.Ytbcikaoklpekhaa.Ab
open Go Go.RowKit
set_option linter.unusedVariables false
set_option linter.unusedSimpArgs false
set_option maxRecDepth 100000
theorem gw_L1n : gwRun numF lwG8 (gw9 nilV []) nilV [] gw10 gw11 gw12 ((flat gwL).take 2) [(7, nilV), (9, .int .i64 0)] [] [7, 9] = some (.exit 0, [some nilV, some (.int .i64 0)], []) := by kernel_rfl
theorem part_run (l : List Item) (k : Nat) (hk : k ≤ l.length) (hl : l.length ≤ 80) :
    gwRun numF lwG8 (gw9 (sliV 1 (runF (l.take k)).ops.length 13) (stH (runF (l.take k)))) (sliV 1 (runF (l.take k)).ops.length 13) (stH (runF (l.take k))) gw10 gw11 gw12 (gwP 8 1) [(0, gs 6 (itemsC l) l.length), (1, .int .i64 (Int.ofNat k))] [] [7] = some (.normal, [some (sliV 1 (runF (l.take k)).ops.length 13)], stH (runF (l.take k))) := by
  have hc := ops_call (l.take k) (by rw [List.length_take]; omega)
  rw [← items_take l k hk, List.length_take, Nat.min_eq_left hk] at hc
  have hG : gw9 (sliV 1 (runF (l.take k)).ops.length 13) (stH (runF (l.take k))) 0 (List.take (((Int.ofNat k).toNat - 0) * 6) (List.drop (0 * 6) (itemsC l))) ((Int.ofNat k).toNat - 0) [] = true := isCall_of hc
  have c1 : (decide (0 ≤ Int.ofNat k) && (Nat.ble (Int.ofNat k).toNat l.length && true)) = true := by
    rw [decide_eq_true (show (0 : Int) ≤ Int.ofNat k by simp), show Nat.ble (Int.ofNat k).toNat l.length = true from Nat.ble_eq_true_of_le hk]; rfl
  generalize hs : runF (l.take k) = s at hG ⊢
  generalize hn : s.ops.length = n at hG ⊢
  unfold stH at hG ⊢
  rw [hn] at hG ⊢
  cases n with
  | zero =>
    have h := gw_part0 numF lwG8 (gw9 (sliV 1 0 13) [hgB (stR s) (L1 s.ctrl) (sliV 1 0 13) (sliV 2 s.ats.length 1), rowB 0 (opsC s.ops) 32, rowB s.ats.length (s.ats.map (Value.int .i64)) 3]) gw10 gw11 gw12 (itemsC l) l.length (Int.ofNat k) (stR s) (L1 s.ctrl) (sliV 1 0 13) (sliV 2 s.ats.length 1) (rowB 0 (opsC s.ops) 32) (rowB s.ats.length (s.ats.map (Value.int .i64)) 3)
    rw [c1, hG] at h
    exact h
  | succ m =>
    have h := gw_part numF lwG8 (gw9 (sliV 1 (m + 1) 13) [hgB (stR s) (L1 s.ctrl) (sliV 1 (m + 1) 13) (sliV 2 s.ats.length 1), rowB (m + 1) (opsC s.ops) 32, rowB s.ats.length (s.ats.map (Value.int .i64)) 3]) gw10 gw11 gw12 (itemsC l) l.length (Int.ofNat k) m (stR s) (L1 s.ctrl) (sliV 1 (m + 1) 13) (sliV 2 s.ats.length 1) (rowB (m + 1) (opsC s.ops) 32) (rowB s.ats.length (s.ats.map (Value.int .i64)) 3)
    rw [c1, hG] at h
    exact h
theorem ops_small (l : List Item) : (runF l).ops.length ≤ l.length ∧ ∀ r ∈ (runF l).ops, r.addr.length ≤ l.length ∧ r.data.length ≤ l.length ∧ r.ctrl.length ≤ l.length := by
  obtain ⟨h1, h2⟩ := inv_run l
  have h3 := h1.ops
  refine ⟨by omega, fun r hr => ?_⟩
  obtain ⟨i, hi, rfl⟩ := List.mem_iff_getElem.1 hr
  obtain ⟨_, g1, g2, g3⟩ := (inv2_run l).at_ i _ (List.getElem?_eq_getElem hi)
  omega
theorem ops_fits {l : List Item} (hl : l.length ≤ 80) : ∀ r ∈ (runF l).ops, r.Fits := fun r hr => by
  obtain ⟨h1, h2, h3⟩ := (ops_small l).2 r hr
  exact ⟨by omega, by omega, by omega⟩
theorem opsC_takeN (ops : List OpR) (k : Nat) : (opsC ops).take (k * 13) = opsC (ops.take k) := by
  rcases Nat.lt_or_ge ops.length k with h | h
  · rw [List.take_of_length_le (by rw [opsC_len]; omega), List.take_of_length_le (by omega)]
  · have e : opsC ops = opsC (ops.take k) ++ opsC (ops.drop k) := by rw [← opsC_append, List.take_append_drop]
    rw [e, List.take_left' (by rw [opsC_len, List.length_take, Nat.min_eq_left h])]
theorem gw10_of (ops : List OpR) (hn : ops.length ≤ 1000000) (hf : ∀ r ∈ ops, r.Fits) : gw10 (gs 13 (opsC ops) ops.length) (gs 13 (opsC ops) ops.length) = true :=
  isPure_of (sameOpsOK ops hn hf) fun a ha => by
    simp only [List.mem_cons, List.not_mem_nil, or_false, or_self] at ha
    subst ha; exact Gh.gs (opsC_gh _)
theorem gw11_of (ops : List OpR) (hn : ops.length ≤ 1000000) (hf : ∀ r ∈ ops, r.Fits) : gw11 (gs 13 (opsC ops) ops.length) = true :=
  isPure_of (opsCopyOK ops hn hf) fun a ha => by
    simp only [List.mem_cons, List.not_mem_nil, or_false, or_self] at ha
    subst ha; exact Gh.gs (opsC_gh _)
abbrev itV (l : List Item) : Value := gs 6 (itemsC l) l.length
noncomputable abbrev opV' (l : List Item) : Value := gs 13 (opsC (runF l).ops) (runF l).ops.length
theorem FR.of {M : Mp} {F : Fr} {tm : Array Value} (h : ∀ x ∈ F, ∃ u, tm[x.1]? = some u ∧ VR M x.2 u) : FR M F tm := fun t v e => h (t, v) (Fr.get_mem e)
theorem gw_mid (l : List Item) (k : Nat) (hk : k ≤ l.length) (hl : l.length ≤ 80) :
    G3 (gwP 8 1 ++ (gwP 9 2 ++ (gwP 11 1 ++ (gwP 12 1 ++ [.block 0 (.loop gwL)])))) (gwG (itV l) (Int.ofNat k) (opV' l)) [] .normal [(0, itV l), (6, opV' l), (8, opV' l)] [] := by
  intro M0 w0 M a w hb ha Q rest hq
  have hM0 : M0.pl = [] := List.eq_nil_of_length_eq_zero hb
  have hM : M.pl = [] := List.eq_nil_of_length_eq_zero ha.rel.len
  obtain ⟨pl, fz⟩ := M
  simp only at hM
  subst hM
  obtain ⟨os1, os2⟩ := ops_small (l.take k)
  obtain ⟨ol1, ol2⟩ := ops_small l
  have hkl : (l.take k).length = k := by rw [List.length_take]; omega
  have hkl' : (l.take k).length ≤ 80 := by omega
  obtain ⟨rt1, rt2⟩ := run_take l k
  obtain ⟨u0, t0, v0⟩ := ha.fr 0 _ rfl
  obtain ⟨u1, t1, v1⟩ := ha.fr 1 _ rfl
  obtain ⟨u5, t5, v5⟩ := ha.fr 5 _ rfl
  obtain ⟨u6, t6, v6⟩ := ha.fr 6 _ rfl
  have hfz : ∀ r o ys, fz r o ys → Froz w r o ys := fun r o ys e => (ha.rel.froz r o ys e).1
  obtain ⟨Z, hZ, vZ⟩ := min_gs v0 (by rw [List.all_eq_true]; exact fun v hv => (items_plain l v hv).1) hfz
  simp only [List.append_assoc]
  -- Ops of the first items
  have S1 : RowS Try.prog 0 158 [0, 5, 6] (gwP 8 1) [(0, itV l), (1, .int .i64 (Int.ofNat k))] [] .normal [(7, sliV 1 (runF (l.take k)).ops.length 13)] (stH (runF (l.take k))) :=
    RowS.of_seeA (gwΦ_ok _ _) (m := 20) (j := 20) (f := 3) (p := keeps 3) (ts := [7]) rfl fc_8 (part_run l k hk hl)
  refine S1.at0 (Z := Z) (fun r o ys e => (hZ r o ys e).1) (FR.of fun x hx => ?_) ha.size ha.defers _ fun M1 a1 w1 b1 z1 z1' R1 F1 sz1 d1 sm1 => ?_
  · simp only [List.mem_cons, List.not_mem_nil, or_false] at hx
    rcases hx with rfl | rfl
    · exact ⟨u0, t0, vZ⟩
    · exact ⟨u1, t1, by rw [plain_eq (show plain (Value.int .i64 (Int.ofNat k)) = true from rfl) v1]; exact plain_VR rfl⟩
  obtain ⟨u7, t7, v7⟩ := F1 7 _ rfl
  have t0a : a1.tmps[0]? = some u0 := by rw [sm1 0 (by simp)]; exact t0
  have t5a : a1.tmps[5]? = some u5 := by rw [sm1 5 (by simp)]; exact t5
  have t6a : a1.tmps[6]? = some u6 := by rw [sm1 6 (by simp)]; exact t6
  have hfz1 : ∀ r o ys, fz r o ys → Froz w1 r o ys := fun r o ys e => (hfz r o ys e).of (b1.block r (hfz r o ys e).lt)
  have hrow : 0 < (runF (l.take k)).ops.length → (stH (runF (l.take k)))[1]? = some (some ⟨opsC (runF (l.take k)).ops, 32, none⟩) := fun hn => by
    obtain ⟨m, hm⟩ : ∃ m, (runF (l.take k)).ops.length = m + 1 := ⟨(runF (l.take k)).ops.length - 1, by omega⟩
    unfold stH; rw [hm]; rfl
  have v7' := row_gs R1 hrow (opsC_len _) (opsC_gh _) v7
  -- the comparison
  have S2 : RowS Try.prog 0 158 [0, 6, 7] (gwP 9 2) [(5, .bool true), (6, opV' l), (7, opV' (l.take k))] [] .normal [] [] := by
    have h := gw_cmp numF lwG8 (gw9 nilV []) nilV [] gw10 gw11 gw12 (opsC (runF l).ops) (opsC (runF (l.take k)).ops) (runF l).ops.length (runF (l.take k)).ops.length
    have e1 : List.take (((runF (l.take k)).ops.length - 0) * 13) (List.drop (0 * 13) (opsC (runF l).ops)) = opsC (runF (l.take k)).ops := by
      rw [Nat.zero_mul, List.drop_zero, Nat.sub_zero, opsC_takeN, ← rt1]
    rw [e1, decide_eq_false (show ¬ Int.ofNat (runF l).ops.length < Int.ofNat (runF (l.take k)).ops.length by simp; omega), show Nat.ble (runF (l.take k)).ops.length (runF l).ops.length = true from Nat.ble_eq_true_of_le rt2, Nat.sub_zero, gw10_of _ (by omega) (ops_fits hkl')] at h
    exact RowS.of_seeA OKg (m := 20) (j := 20) (f := 3) (p := keeps 3) (ts := []) rfl fc_9 h
  refine S2.at0 (Z := fun r o ys => Froz w1 r o ys) (fun r o ys e => e) (FR.of fun x hx => ?_) sz1 d1 _ fun M2 a2 w2 b2 z2 z2' R2 F2 sz2 d2 sm2 => ?_
  · simp only [List.mem_cons, List.not_mem_nil, or_false] at hx
    rcases hx with rfl | rfl | rfl
    · exact ⟨u5, t5a, by rw [plain_eq (show plain (Value.bool true) = true from rfl) v5]; exact plain_VR rfl⟩
    · exact ⟨u6, t6a, v6.le (Le.nil_nil hfz1)⟩
    · exact ⟨u7, t7, v7'⟩
  have t0b : a2.tmps[0]? = some u0 := by rw [sm2 0 (by simp)]; exact t0a
  have t6b : a2.tmps[6]? = some u6 := by rw [sm2 6 (by simp)]; exact t6a
  have t7b : a2.tmps[7]? = some u7 := by rw [sm2 7 (by simp)]; exact t7
  have hfz2 : ∀ r o ys, fz r o ys → Froz w2 r o ys := fun r o ys e => (hfz1 r o ys e).of (b2.block r (hfz1 r o ys e).lt)
  -- the copy
  have S3 : RowS Try.prog 0 158 [0, 6, 7] (gwP 11 1) [(6, opV' l)] [] .normal [(8, opV' l)] [] := by
    have h := gw_kept numF lwG8 (gw9 nilV []) nilV [] gw10 gw11 gw12 (opsC (runF l).ops) (runF l).ops.length
    rw [gw11_of _ (by omega) (ops_fits hl)] at h
    exact RowS.of_seeA OKg (m := 20) (j := 20) (f := 3) (p := keeps 3) (ts := [8]) rfl fc_11 h
  refine S3.at0 (Z := fz) hfz2 (FR.of fun x hx => ?_) sz2 d2 _ fun M3 a3 w3 b3 z3 z3' R3 F3 sz3 d3 sm3 => ?_
  · simp only [List.mem_cons, List.not_mem_nil, or_false] at hx
    subst hx
    exact ⟨u6, t6b, v6⟩
  have t0c : a3.tmps[0]? = some u0 := by rw [sm3 0 (by simp)]; exact t0b
  have t6c : a3.tmps[6]? = some u6 := by rw [sm3 6 (by simp)]; exact t6b
  have t7c : a3.tmps[7]? = some u7 := by rw [sm3 7 (by simp)]; exact t7b
  obtain ⟨u8, t8, v8⟩ := F3 8 _ rfl
  have hM3 : M3.pl = [] := List.eq_nil_of_length_eq_zero R3.len
  obtain ⟨pl3, fz3⟩ := M3
  simp only at hM3
  subst hM3
  -- zero
  have S4 : RowS Try.prog 0 158 [0, 6, 7, 8] (gwP 12 1) [] [] .normal [(9, .int .i64 0)] [] :=
    RowS.of_seeA OKg (m := 20) (j := 20) (f := 3) (p := keeps 3) (ts := [9]) rfl fc_12 (gw_zero numF lwG8 (gw9 nilV []) nilV [] gw10 gw11 gw12 [])
  refine S4.at0 (Z := fun _ _ _ => False) (fun r o ys e => e.elim) (fun t v e => by cases e) sz3 d3 _ fun M4 a4 w4 b4 z4 z4' R4 F4 sz4 d4 sm4 => ?_
  have t0d : a4.tmps[0]? = some u0 := by rw [sm4 0 (by simp)]; exact t0c
  have t6d : a4.tmps[6]? = some u6 := by rw [sm4 6 (by simp)]; exact t6c
  have t7d : a4.tmps[7]? = some u7 := by rw [sm4 7 (by simp)]; exact t7c
  have t8d : a4.tmps[8]? = some u8 := by rw [sm4 8 (by simp)]; exact t8
  obtain ⟨u9, t9, v9⟩ := F4 9 _ rfl
  have q2 := b2.size
  have q3 := b3.size
  have q4 := b4.size
  have b14 : Below w1.heap.size w1 w4 := ⟨b4.os.trans (b3.os.trans b2.os), b4.tape.trans (b3.tape.trans b2.tape), b4.output.trans (b3.output.trans b2.output), by omega, fun i hi => by rw [b4.block i (by omega), b3.block i (by omega), b2.block i (by omega)]⟩
  -- what comes of it
  have fin : ∀ (a' : Act) (w' : World), a'.tmps.size = 158 → a'.defers = [] → Same [0, 6, 8] a4 a' → w'.os = w4.os → w'.tape = w4.tape → w'.output = w4.output → w4.heap.size ≤ w'.heap.size → (∀ i, i < w4.heap.size → ¬ (w.heap.size ≤ i ∧ i < w1.heap.size) → w'.heap[i]? = w4.heap[i]?) → wpL Try.prog Q rest a' w' := by
    intro a' w' hs hd hsm ho ht hou hsz hbl
    have hw : w.heap.size ≤ w1.heap.size := b1.size
    have hle : Le (⟨[], fz⟩ : Mp) ⟨[], fz3⟩ := Le.nil_nil z3
    refine hq ⟨[], fz3⟩ a' w' ⟨rel_fz (fun r o ys e => ?_) 0, FR.of fun x hx => ?_, hs, hd, ⟨⟨fun i p h => (by rw [hM0] at h; simp at h), fun r o ys e => z3 r o ys (ha.ext.le.fz r o ys e)⟩, fun i p _ h => (by simp at h), fun r o ys e => ?_⟩, ⟨by rw [ho, b4.os, b3.os, b2.os, b1.os]; exact ha.keep.os, by rw [ht, b4.tape, b3.tape, b2.tape, b1.tape]; exact ha.keep.tape, by rw [hou, b4.output, b3.output, b2.output, b1.output]; exact ha.keep.output, by have := ha.keep.size; omega, fun i hi hn => ?_⟩⟩
    · have h3 : Froz w3 r o ys := (R3.froz r o ys e).1
      have h4 : Froz w4 r o ys := h3.of (b4.block r h3.lt)
      refine h4.of (hbl r h4.lt ?_)
      rcases z3' r o ys e with h | h
      · have := (hfz r o ys h).lt; omega
      · omega
    · simp only [List.mem_cons, List.not_mem_nil, or_false] at hx
      rcases hx with rfl | rfl | rfl
      · exact ⟨u0, by rw [hsm 0 (by simp)]; exact t0d, v0.le hle⟩
      · exact ⟨u6, by rw [hsm 6 (by simp)]; exact t6d, v6.le hle⟩
      · exact ⟨u8, by rw [hsm 8 (by simp)]; exact t8d, v8⟩
    · rcases z3' r o ys e with h | h
      · exact ha.ext.newfz r o ys h
      · have := ha.keep.size
        exact .inr (.inl (by omega))
    · have := ha.keep.size
      rw [hbl i (by omega) (by omega), b14.block i (by omega), b1.block i (by omega)]
      exact ha.keep.block i hi hn
  show wpL Try.prog Q ([.block 0 (.loop gwL)] ++ rest) a4 w4
  generalize hn : (runF (l.take k)).ops.length = n at *
  cases n with
  | zero =>
    have hn7 : u7 = .slice none 0 0 := by
      change VR M1 nilV u7 at v7
      cases v7; rfl
    subst hn7
    have S5 : RowS Try.prog 0 158 [0, 6, 8] ((flat gwL).take 2) [(7, nilV), (9, .int .i64 0)] [] (.exit 0) [(7, nilV), (9, .int .i64 0)] [] :=
      RowS.of_seeA OKg (m := 20) (j := 20) (f := 3) (p := keeps 3) (ts := [7, 9]) rfl fc_L1 gw_L1n
    show (Code.block 0 (.loop gwL)).wp Try.prog (Exit.then (wpL Try.prog Q rest) Q) a4 w4
    refine wp_block (wp_loop_rounds 1 ?_)
    rw [rounds_succ]
    refine wp_of_flat ?_
    rw [gwL_flat]
    refine S5.at0 (Z := fun _ _ _ => False) (fun r o ys e => e.elim) (FR.of fun x hx => ?_) sz4 d4 _ fun M5 a5 w5 b5 _ _ _ _ sz5 d5 sm5 => ?_
    · simp only [List.mem_cons, List.not_mem_nil, or_false] at hx
      rcases hx with rfl | rfl
      · exact ⟨_, t7d, .nils⟩
      · exact ⟨u9, t9, by rw [plain_eq (show plain (Value.int .i64 0) = true from rfl) v9]; exact plain_VR rfl⟩
    exact fin a5 w5 sz5 d5 sm5 b5.os b5.tape b5.output b5.size fun i hi _ => b5.block i hi
  | succ m =>
    have hrow' := hrow (by omega)
    obtain ⟨r0, s, N, c, p1, p2, p3, rfl⟩ := slice_inv (i := 1) (n := m + 1) (z := 13) (by omega) v7
    have hs0 : s = 0 := R1.own 1 _ (by omega) p1
    subst hs0
    have hpart := PartOK.start R1 p1 z1' (fun r o ys e => (hZ r o ys e).2) (fun v hv x => (items_plain l v hv).2 x) hrow' b14
    have hwk : WK w.heap.size w1.heap.size r0 N (runF (l.take k)).ops a4 w4 a4 w4 := ⟨hpart, sz4, d4, Same.refl _ _, rfl, rfl, rfl, Nat.le_refl _, fun _ _ _ => rfl⟩
    refine gw_writes hn (by omega) (fun r hr => ?_) a4 w4 ⟨hwk, FR.of fun x hx => ?_⟩ Q rest fun a' w' h' => ?_
    · have := os2 r hr; omega
    · simp only [gwS, List.mem_cons, List.not_mem_nil, or_false] at hx
      rcases hx with rfl | rfl
      · exact ⟨_, t7d, .slice (r := r0) (s := 0) (N := N) (c := c) rfl p2 (by omega)⟩
      · exact ⟨u9, t9, by rw [plain_eq (show plain (Value.int .i64 0) = true from rfl) v9]; exact plain_VR rfl⟩
    · exact fin a' w' h'.1.size h'.1.defers h'.1.same h'.1.os h'.1.tape h'.1.output h'.1.hsize h'.1.block
end Go.Proofs.Ytbcikaoklpekhaa.Ab
namespace Go.Proofs.Ytbcikaoklpekhaa.Ab
open Go Go.RowKit
set_option linter.unusedVariables false
set_option linter.unusedSimpArgs false
set_option maxRecDepth 100000
section
variable (N : Int → Int → Int) (G8 : Int → Int → Bool) (G9 : Nat → List Value → Nat → Heap → Bool) (V : Value) (K9 : Heap) (G10 : Value → Value → Bool) (G11 : Value → Bool) (G12 : Nat → Value → Heap → Bool)
theorem gw_drh : (gwP 0 7).all (drawsOK ((ctx (gwΦ N G8 G9 V K9 G10 G11 G12)).dr 3)) = true := by kernel_rfl
theorem gw_dra : (gwP 7 1).all (drawsOK ((ctx (gwΦ N G8 G9 V K9 G10 G11 G12)).dr 3)) = true := by kernel_rfl
theorem gw_drs : (gwP 14 2).all (drawsOK ((ctx (gwΦ N G8 G9 V K9 G10 G11 G12)).dr 3)) = true := by kernel_rfl
end
theorem numF_lt (a : Int) (n : Nat) (hn : n ≤ 1000) : ∃ k : Nat, k ≤ n ∧ numF a (Int.ofNat n + 1) = Int.ofNat k := by
  obtain ⟨h1, h2⟩ := num_lt a (Int.ofNat n + 1) (by simp; omega) (by simp; omega)
  generalize numF a (Int.ofNat n + 1) = x at h1 h2
  have e : Int.ofNat n = (n : Int) := rfl
  exact ⟨x.toNat, by omega, by show x = (x.toNat : Int); omega⟩
theorem itemsC_len6 (l : List Item) : (itemsC l).length = l.length * 6 := by
  induction l with
  | nil => rfl
  | cons x l ih => simp only [itemsC, List.flatMap_cons, List.length_append, List.length_cons] at ih ⊢; rw [ih]; simp [itemC]; omega
theorem itV_gh (l : List Item) : Gh (itV l) := Gh.gs (itemsC_gh l)
theorem ops9_call (l : List Item) (hl : l.length ≤ 80) : gw9 (opV' l) [] 0 (itemsC l) l.length [] = true :=
  isCall_of ((opsOK l (by omega)).call (fun a ha => by
    simp only [List.mem_cons, List.not_mem_nil, or_false] at ha
    subst ha; exact itV_gh l) 0 [])
theorem gw_start (l : List Item) (hl : l.length ≤ 80) (n : Int) : ∃ k : Nat, k ≤ l.length ∧ G3 (gwP 0 7 ++ gwP 7 1) (enterF 0 [itV l, .int .i64 n]) [] .normal (gwG (itV l) (Int.ofNat k) (opV' l)) [] := by
  obtain ⟨k, hk, he⟩ := numF_lt n l.length (by omega)
  refine ⟨k, hk, ?_⟩
  have h1 := gw_head numF lwG8 (gw9 nilV []) nilV [] gw10 gw11 gw12 (itemsC l) l.length n
  have ew : w64 (Int.ofNat l.length + 1) = Int.ofNat l.length + 1 := w64_of (by simp; omega) (by simp; omega)
  rw [decide_eq_false (show ¬ (80 : Int) < Int.ofNat l.length by simp; omega), ew, he, show lwG8 n (Int.ofNat l.length + 1) = true from decide_eq_true (by simp; omega)] at h1
  simp only [cond_false, cond_true] at h1
  have r1 : G3 (gwP 0 7) (enterF 0 [itV l, .int .i64 n]) [] .normal (gwF (itV l) (Int.ofNat k)) [] := RowOK.go (RowOK.of_seeA OKg (m := 20) (j := 20) (f := 3) (p := keeps 3) (ts := [0, 1, 5]) rfl (gw_drh _ _ _ _ _ _ _ _) h1)
  have h2 := gw_all numF lwG8 (gw9 (opV' l) []) gw10 gw11 gw12 (itemsC l) l.length (Int.ofNat k) (opsC (runF l).ops) (runF l).ops.length
  rw [ops9_call l hl] at h2
  have r2 : G3 (gwP 7 1) (gwF (itV l) (Int.ofNat k)) [] .normal (gwG (itV l) (Int.ofNat k) (opV' l)) [] := RowOK.go (RowOK.of_seeA (gwΦ_ok (opV' l) []) (m := 20) (j := 20) (f := 3) (p := keeps 3) (ts := [0, 1, 5, 6]) rfl (gw_dra _ _ _ _ _ _ _ _) h2)
  exact r1.app r2
theorem gw_again (l : List Item) (hl : l.length ≤ 80) : G3 (gwP 14 2) [(0, itV l), (6, opV' l), (8, opV' l)] [] .normal [(6, opV' l)] [] := by
  have h := gw_same numF lwG8 (gw9 (opV' l) []) gw10 gw11 gw12 (itemsC l) l.length (opsC (runF l).ops) (runF l).ops.length
  have h10 := gw10_of (runF l).ops (by have := (ops_small l).1; omega) (ops_fits hl)
  rw [ops9_call l hl, h10] at h
  exact RowOK.go (RowOK.of_seeA (gwΦ_ok (opV' l) []) (m := 20) (j := 20) (f := 3) (p := keeps 3) (ts := [6]) rfl (gw_drs _ _ _ _ _ _ _ _) h)
theorem gw_pure (l : List Item) (n : Int) : PureOK Try.prog 3 [itV l, .int .i64 n] (.bool true) := by
  obtain ⟨fn, f1, f2, f3, f4⟩ := fnOf fn3
  have fin : ∀ {F' : Fr}, GoOK Try.prog 0 0 158 (flat (bodyOf 3)) (enterF 0 [itV l, .int .i64 n]) [] .ret F' [] → F'.get 4 = some (.bool true) → PureOK Try.prog 3 [itV l, .int .i64 n] (.bool true) := fun all hg => by
    have hc := CallOK.of_go OKg (f := 3) (fn := fn) (c := bodyOf 3) (args := [itV l, .int .i64 n]) (l := [.bool true]) (H := []) f1 f2 (by rw [f3]; simp) (by rw [f3]; exact GoOK.code all) (.inr rfl) (by rw [f4]; simp only [resA, hg])
    exact PureOK.of_call hc (Gh.plain rfl)
  by_cases hl : l.length ≤ 80
  · obtain ⟨k, hk, h0⟩ := gw_start l hl n
    have h1 := gw_mid l k hk hl
    have h2 := gw_again l hl
    have h3 := gw_last (runF l).ops (by have := (ops_small l).1; omega) (inv2_run l).at_
    have all := h0.app (h1.app (h2.app h3))
    simp only [List.append_assoc] at all
    rw [← gw_flat] at all
    exact fin all rfl
  · have h := gw_head4 numF lwG8 (gw9 nilV []) nilV [] gw10 gw11 gw12 (itemsC l) l.length n
    rw [decide_eq_true (show (80 : Int) < Int.ofNat l.length by simp; omega), cond_true] at h
    have r := RowOK.of_seeA (F2 := [(4, .bool true)]) OKg (m := 20) (j := 20) (f := 3) (p := keeps 3) (lo := 0) (n := 158) (ts := [4]) rfl (gw_drh _ _ _ _ _ _ _ _) h
    have all := (RowOK.go (base := 0) r).left (by intro h; cases h) (gwP 7 1 ++ (gwP 8 1 ++ (gwP 9 2 ++ (gwP 11 1 ++ (gwP 12 1 ++ ([.block 0 (.loop gwL)] ++ (gwP 14 2 ++ (gwP 16 1 ++ gwP 17 3))))))))
    rw [← gw_flat] at all
    exact fin all rfl
end Go.Proofs.Ytbcikaoklpekhaa.Ab
