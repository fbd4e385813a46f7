/- LonePlays: what the law's runs come to, for every slice. -/
import Derived.Test.YtecmjcfhbedelaaLonePlaysOk
namespace Go.Proofs.Ytecmjcfhbedelaa.Ab.LP
open Go Go.RowKit
set_option linter.unusedVariables false
set_option linter.unusedSimpArgs false
theorem less_true {i n : Nat} (h : i < n) : less i n = true := by
  unfold less; exact decide_eq_true (Int.ofNat_lt.2 h)
theorem less_false {i n : Nat} (h : ¬ i < n) : less i n = false := by
  unfold less; exact decide_eq_false fun k => h (Int.ofNat_lt.1 k)
theorem inside_true {i n : Nat} (h : i < n) : inside i n = true := by
  unfold inside
  rw [less_true h]
  have : (Int.ofNat i).toNat = i := rfl
  rw [this, Nat.zero_add, Nat.beq_refl]; rfl
theorem wrap_succ : ∀ i, i < 80 → IntKind.i64.wrap (Int.ofNat i + 1) = Int.ofNat (i + 1) := by decide
/-- A block of which all is told. -/
def OKB (b : Blk) : Prop := b.view = none ∧ b.cells.all plain = true
theorem okx (line hart d0 d1 d2 d3 : Int) (st : St) : OKB (st.x line hart d0 d1 d2 d3) := ⟨rfl, rfl⟩
theorem oky (line hart d0 d1 d2 d3 : Int) (st : St) : OKB (st.y line hart d0 d1 d2 d3) := ⟨rfl, rfl⟩
theorem okd (k : Int) (wr : Bool) (e0 e1 e2 e3 mk ml mf mt m0 m1 m2 m3 : Int) (h d a : Bool) : OKB (dB k wr e0 e1 e2 e3 mk ml mf mt m0 m1 m2 m3 h d a) := ⟨rfl, rfl⟩
theorem pick {M M' : Mp} {F : Fr} {tmps : Array Value} (h : FR M F tmps) {q : Nat → Bool} {t : Nat} {v : Value} (hv : F.get t = some v) (hq : okv q v = true) (hm : ∀ j p, q j = true → M[j]? = some p → M'[j]? = some p) : ∃ u, tmps[t]? = some u ∧ VR M' v u :=
  let ⟨u, h1, h2⟩ := h t v hv
  ⟨u, h1, h2.okv hq hm⟩
theorem fourIx : ∀ (i s : Nat), ([0, 1, 2, 3] : List Nat)[i]? = some s → i = s := by
  intro i s e
  match i, e with
  | 0, e => cases e; rfl
  | 1, e => cases e; rfl
  | 2, e => cases e; rfl
  | 3, e => cases e; rfl
  | i + 4, e => cases e
theorem sixIx : ∀ (i s : Nat), ([0, 1, 2, 3, 4, 5] : List Nat)[i]? = some s → i = s := by
  intro i s e
  match i, e with
  | 0, e => cases e; rfl
  | 1, e => cases e; rfl
  | 2, e => cases e; rfl
  | 3, e => cases e; rfl
  | 4, e => cases e; rfl
  | 5, e => cases e; rfl
  | i + 6, e => cases e
theorem four {M : Mp} (hM : 3 < M.length) (j : Nat) (hj : j < 4) (p : Pl) (h : M[j]? = some p) : (selM M [0, 1, 2, 3])[j]? = some p := by
  match j, hj with
  | 0, _ => rw [selM_get (s := 0) rfl (by omega)]; exact h
  | 1, _ => rw [selM_get (s := 1) rfl (by omega)]; exact h
  | 2, _ => rw [selM_get (s := 2) rfl (by omega)]; exact h
  | 3, _ => rw [selM_get (s := 3) rfl (by omega)]; exact h
theorem six {M : Mp} (hM : 5 < M.length) (j : Nat) (hj : j < 6) (p : Pl) (h : M[j]? = some p) : (selM M [0, 1, 2, 3, 4, 5])[j]? = some p := by
  match j, hj with
  | 0, _ => rw [selM_get (s := 0) rfl (by omega)]; exact h
  | 1, _ => rw [selM_get (s := 1) rfl (by omega)]; exact h
  | 2, _ => rw [selM_get (s := 2) rfl (by omega)]; exact h
  | 3, _ => rw [selM_get (s := 3) rfl (by omega)]; exact h
  | 4, _ => rw [selM_get (s := 4) rfl (by omega)]; exact h
  | 5, _ => rw [selM_get (s := 5) rfl (by omega)]; exact h
/-- The row that is handed in. -/
structure Row (w0 : World) (r off n : Nat) (cs : List Value) : Prop where
  block : ∃ t fz, w0.heap[r]? = some (.cells cs.toArray t fz)
  el : ∀ i, i < n → ∃ (k : Int) (wr : Bool) (e0 e1 e2 e3 mk ml mf mt m0 m1 m2 m3 : Int) (h d a : Bool), (cs.drop (off + i * 17)).take 17 = (dB k wr e0 e1 e2 e3 mk ml mf mt m0 m1 m2 m3 h d a).cells
theorem Row.lt {w0 : World} {r off n : Nat} {cs : List Value} (h : Row w0 r off n cs) : r < w0.heap.size := by
  obtain ⟨t, fz, h⟩ := h.block
  exact (Array.getElem?_eq_some_iff.1 h).1
/-- A round begins, or its test is behind. -/
def Head (w0 : World) (m0 : Pl) (n : Nat) (j line hart : Int) (X Y : Blk) (a : Act) (w : World) : Prop :=
  ∃ M : Mp, M[0]? = some m0 ∧ At w0.heap.size w0 2 239 M (headF n j line hart) [none, none, some X, some Y] a w
/-- Within a round. -/
def Mid (w0 : World) (m0 : Pl) (n i : Nat) (line hart was k : Int) (X Y D C : Blk) (a : Act) (w : World) : Prop :=
  ∃ M : Mp, M[0]? = some m0 ∧ At w0.heap.size w0 2 239 M (midF n (Int.ofNat i) line hart was k) [none, none, some X, some Y, some D, some C] a w
def lt6 (j : Nat) : Bool := Nat.ble j 5
def lt4 (j : Nat) : Bool := Nat.ble j 3
theorem lt6_lt {j : Nat} (h : lt6 j = true) : j < 6 := Nat.lt_succ_of_le (Nat.le_of_ble_eq_true h)
theorem lt4_lt {j : Nat} (h : lt4 j = true) : j < 4 := Nat.lt_succ_of_le (Nat.le_of_ble_eq_true h)
theorem mid_again {w0 : World} {m0 : Pl} {M' : Mp} {F' : Fr} {H' : Heap} {a' : Act} {w' : World} {e : Exit} {n i : Nat} {line hart was k : Int} {X Y D C : Blk} (hA : At w0.heap.size w0 2 239 M' F' H' a' w') (h0 : M'[0]? = some m0)
    (hl : leafM e F' H' = MO n i line hart was k X Y D C) (hX : OKB X) (hY : OKB Y) (hD : OKB D) (hC : OKB C) : e = .normal ∧ Mid w0 m0 n i line hart was k X Y D C a' w' := by
  unfold leafM at hl
  split at hl
  · cases hl
  · simp only [MO, Option.some.injEq, Prod.mk.injEq] at hl
    obtain ⟨rfl, f0, f1, f2, f8, f9, f10, f11, f12, f13, f65, g2, g3, g4, g5⟩ := hl
    have hlen : 5 < M'.length := by rw [hA.rel.len]; exact (List.getElem?_eq_some_iff.1 g5).1
    have hm : ∀ j p, lt6 j = true → M'[j]? = some p → (selM M' [0, 1, 2, 3, 4, 5])[j]? = some p := fun j p hj e => six hlen j (lt6_lt hj) p e
    refine ⟨rfl, selM M' [0, 1, 2, 3, 4, 5], hm 0 _ rfl h0, hA.sel [0, 1, 2, 3, 4, 5] rfl (fun s hs => ?_) (fun i s e => ?_) (fun i j s e1 e2 => ?_) (fun i b e => ?_) ?_⟩
    · have : ∀ s ∈ ([0, 1, 2, 3, 4, 5] : List Nat), s < 6 := by decide
      have := this s hs
      omega
    · rw [sixIx i s e]; exact id
    · rw [sixIx i s e1, sixIx j s e2]
    · match i, e with
      | 0, e => cases e
      | 1, e => cases e
      | 2, e => cases e; exact ⟨2, rfl, g2, hX.1, hX.2, id⟩
      | 3, e => cases e; exact ⟨3, rfl, g3, hY.1, hY.2, id⟩
      | 4, e => cases e; exact ⟨4, rfl, g4, hD.1, hD.2, id⟩
      | 5, e => cases e; exact ⟨5, rfl, g5, hC.1, hC.2, id⟩
      | j + 6, e => cases e
    · refine FR.list fun e he => ?_
      simp only [midF, List.mem_cons, List.not_mem_nil, or_false] at he
      rcases he with rfl | rfl | rfl | rfl | rfl | rfl | rfl | rfl | rfl | rfl
      · exact pick hA.fr f65 rfl hm
      · exact pick hA.fr f0 rfl hm
      · exact pick hA.fr f1 rfl hm
      · exact pick hA.fr f2 rfl hm
      · exact pick hA.fr f8 rfl hm
      · exact pick hA.fr f9 rfl hm
      · exact pick hA.fr f10 rfl hm
      · exact pick hA.fr f11 rfl hm
      · exact pick hA.fr f12 rfl hm
      · exact pick hA.fr f13 rfl hm
theorem head_again {w0 : World} {m0 : Pl} {M' : Mp} {F' : Fr} {H' : Heap} {a' : Act} {w' : World} {e e' : Exit} {n : Nat} {j line hart : Int} {X Y : Blk} (hA : At w0.heap.size w0 2 239 M' F' H' a' w') (h0 : M'[0]? = some m0)
    (hl : leafH e F' H' = HO e' n j line hart X Y) (hX : OKB X) (hY : OKB Y) : e = e' ∧ Head w0 m0 n j line hart X Y a' w' := by
  simp only [leafH, HO, Option.some.injEq, Prod.mk.injEq] at hl
  obtain ⟨rfl, f0, f1, f2, f8, f9, f10, g2, g3⟩ := hl
  have hlen : 3 < M'.length := by rw [hA.rel.len]; exact (List.getElem?_eq_some_iff.1 g3).1
  have hm : ∀ j p, lt4 j = true → M'[j]? = some p → (selM M' [0, 1, 2, 3])[j]? = some p := fun j p hj e => four hlen j (lt4_lt hj) p e
  refine ⟨rfl, selM M' [0, 1, 2, 3], hm 0 _ rfl h0, hA.sel [0, 1, 2, 3] rfl (fun s hs => ?_) (fun i s e => ?_) (fun i j s e1 e2 => ?_) (fun i b e => ?_) ?_⟩
  · have : ∀ s ∈ ([0, 1, 2, 3] : List Nat), s < 4 := by decide
    have := this s hs
    omega
  · rw [fourIx i s e]; exact id
  · rw [fourIx i s e1, fourIx j s e2]
  · match i, e with
    | 0, e => cases e
    | 1, e => cases e
    | 2, e => cases e; exact ⟨2, rfl, g2, hX.1, hX.2, id⟩
    | 3, e => cases e; exact ⟨3, rfl, g3, hY.1, hY.2, id⟩
    | j + 4, e => cases e
  · refine FR.list fun e he => ?_
    simp only [headF, List.mem_cons, List.not_mem_nil, or_false] at he
    rcases he with rfl | rfl | rfl | rfl | rfl | rfl
    · exact pick hA.fr f0 rfl hm
    · exact pick hA.fr f1 rfl hm
    · exact pick hA.fr f2 rfl hm
    · exact pick hA.fr f8 rfl hm
    · exact pick hA.fr f9 rfl hm
    · exact pick hA.fr f10 rfl hm
theorem MO_some (n i : Nat) (line hart was k : Int) (X Y D C : Blk) : ∃ r, MO n i line hart was k X Y D C = some r := ⟨_, rfl⟩
/-- A piece within a round. -/
theorem mid_step {w0 : World} {m0 : Pl} {n i : Nat} {line hart was k : Int} {X Y D C X' Y' D' C' : Blk} {piece rest : List Code} {Q : Exit → Act → World → Prop} {a : Act} {w : World} (hd : piece.all (drawsOK ((ctx tkΦ).dr 9)) = true)
    (hrun : runL (ctx tkΦ) (callK (ctx tkΦ) 30) 30 2 239 9 (keeps 9) piece (midF n (Int.ofNat i) line hart was k) [none, none, some X, some Y, some D, some C] leafM = MO n i line hart was k X' Y' D' C')
    (hX : OKB X') (hY : OKB Y') (hD : OKB D') (hC : OKB C') (hm : Mid w0 m0 n i line hart was k X Y D C a w) (hk : ∀ a' w', Mid w0 m0 n i line hart was k X' Y' D' C' a' w' → wpL Try.prog Q rest a' w') : wpL Try.prog Q (piece ++ rest) a w := by
  obtain ⟨M, h0, hA⟩ := hm
  obtain ⟨r, hr⟩ := MO_some n i line hart was k X' Y' D' C'
  obtain ⟨e, F', H', hl, hOK⟩ := runL_sound tkOK (callK_sound tkOK 30) piece hd _ _ leafM (hrun.trans hr)
  refine hOK.at_ hA _ fun M' a' w' hle hA' => ?_
  obtain ⟨rfl, hm'⟩ := mid_again hA' (hle 0 _ h0) (hl.trans hr.symm) hX hY hD hC
  exact hk a' w' hm'
/-- A question within a round. -/
theorem mid_ask {w0 : World} {m0 : Pl} {n i : Nat} {line hart was k : Int} {X Y D C : Blk} {piece : List Code} {t : Tmp} {b : Bool} {x y : Code} {Q : Exit → Act → World → Prop} {a : Act} {w : World} (hd : piece.all (drawsOK ((ctx tkΦ).dr 9)) = true)
    (hrun : runL (ctx tkΦ) (callK (ctx tkΦ) 30) 30 2 239 9 (keeps 9) piece (midF n (Int.ofNat i) line hart was k) [none, none, some X, some Y, some D, some C] (leafT t) = MT n i line hart was k X Y D C b)
    (hX : OKB X) (hY : OKB Y) (hD : OKB D) (hC : OKB C) (hm : Mid w0 m0 n i line hart was k X Y D C a w) (hk : ∀ a' w', Mid w0 m0 n i line hart was k X Y D C a' w' → wpL Try.prog Q (flat (bif b then x else y)) a' w') :
    wpL Try.prog Q (piece ++ [Code.cond (.tmp t) x y]) a w := by
  obtain ⟨M, h0, hA⟩ := hm
  obtain ⟨r, hr⟩ := MO_some n i line hart was k X Y D C
  have hrun' : runL (ctx tkΦ) (callK (ctx tkΦ) 30) 30 2 239 9 (keeps 9) piece (midF n (Int.ofNat i) line hart was k) [none, none, some X, some Y, some D, some C] (leafT t) = some (r, some (.bool b)) := by
    rw [hrun]; unfold MT; rw [hr]
  obtain ⟨e, F', H', hl, hOK⟩ := runL_sound tkOK (callK_sound tkOK 30) piece hd _ _ (leafT t) hrun'
  refine hOK.at_ hA _ fun M' a' w' hle hA' => ?_
  unfold leafT at hl
  split at hl
  · rename_i z hz
    simp only [Option.some.injEq, Prod.mk.injEq] at hl
    obtain ⟨rfl, hb⟩ := hl
    obtain ⟨rfl, hm'⟩ := mid_again hA' (hle 0 _ h0) (hz.trans hr.symm) hX hY hD hC
    refine wpL_cond hA'.fr hb ?_
    rw [List.append_nil]
    exact hk a' w' hm'
  · cases hl
theorem head_step {w0 : World} {m0 : Pl} {n : Nat} {j j' line hart : Int} {X Y X' Y' : Blk} {piece rest : List Code} {e : Exit} {Q : Exit → Act → World → Prop} {a : Act} {w : World} (hd : piece.all (drawsOK ((ctx tkΦ).dr 9)) = true)
    (hrun : runL (ctx tkΦ) (callK (ctx tkΦ) 30) 30 2 239 9 (keeps 9) piece (headF n j line hart) [none, none, some X, some Y] leafH = HO e n j' line hart X' Y')
    (hX : OKB X') (hY : OKB Y') (hm : Head w0 m0 n j line hart X Y a w) (hk : ∀ a' w', Head w0 m0 n j' line hart X' Y' a' w' → Exit.then (wpL Try.prog Q rest) Q e a' w') : wpL Try.prog Q (piece ++ rest) a w := by
  obtain ⟨M, h0, hA⟩ := hm
  obtain ⟨e', F', H', hl, hOK⟩ := runL_sound tkOK (callK_sound tkOK 30) piece hd _ _ leafH hrun
  refine hOK.at_ hA _ fun M' a' w' hle hA' => ?_
  obtain ⟨rfl, hm'⟩ := head_again hA' (hle 0 _ h0) (hl : leafH e' F' H' = HO e n j' line hart X' Y') hX hY
  exact hk a' w' hm'
section
variable {w0 : World} {m0 : Pl} {n i : Nat} {line hart s0 k c0 c1 c2 c3 w1 k0 e0 e1 e2 e3 mk ml mf mt m0' m1 m2 m3 d0 d1 d2 d3 : Int} {wr h d a' : Bool}
/-- The four ways of a round. -/
theorem ways_ok {st : St} {Q : Exit → Act → World → Prop} {a : Act} {w : World} (hm : Mid w0 m0 n i line hart s0 k (st.x line hart d0 d1 d2 d3) (st.y line hart d0 d1 d2 d3) (dB k wr e0 e1 e2 e3 mk ml mf mt m0' m1 m2 m3 h d a') (xB line hart s0 c0 c1 c2 c3 w1 k0) a w)
    (hk : ∀ (st' : St) (y0 y1 y2 y3 : Int) a2 w2, Mid w0 m0 n i line hart s0 k (st'.x line hart y0 y1 y2 y3) (st'.y line hart y0 y1 y2 y3) (dB k wr e0 e1 e2 e3 mk ml mf mt m0' m1 m2 m3 h d a') (xB line hart s0 c0 c1 c2 c3 w1 k0) a2 w2 → Q .normal a2 w2) : wpL Try.prog Q (flat ways) a w := by
  have okD := okd k wr e0 e1 e2 e3 mk ml mf mt m0' m1 m2 m3 h d a'
  have okC : OKB (xB line hart s0 c0 c1 c2 c3 w1 k0) := ⟨rfl, rfl⟩
  have arm : ∀ {piece : List Code}, piece.all (drawsOK ((ctx tkΦ).dr 9)) = true →
      (∃ (st' : St) (y0 y1 y2 y3 : Int), runL (ctx tkΦ) (callK (ctx tkΦ) 30) 30 2 239 9 (keeps 9) piece (midF n (Int.ofNat i) line hart s0 k) (midH line hart st d0 d1 d2 d3 (dB k wr e0 e1 e2 e3 mk ml mf mt m0' m1 m2 m3 h d a') (xB line hart s0 c0 c1 c2 c3 w1 k0)) leafM = GO n i line hart s0 k st' y0 y1 y2 y3 (dB k wr e0 e1 e2 e3 mk ml mf mt m0' m1 m2 m3 h d a') (xB line hart s0 c0 c1 c2 c3 w1 k0)) →
      ∀ a2 w2, Mid w0 m0 n i line hart s0 k (st.x line hart d0 d1 d2 d3) (st.y line hart d0 d1 d2 d3) (dB k wr e0 e1 e2 e3 mk ml mf mt m0' m1 m2 m3 h d a') (xB line hart s0 c0 c1 c2 c3 w1 k0) a2 w2 → wpL Try.prog Q piece a2 w2 := by
    intro piece hd ⟨st', y0, y1, y2, y3, hr⟩ a2 w2 hm2
    have := mid_step (Q := Q) (rest := []) hd hr (okx _ _ _ _ _ _ st') (oky _ _ _ _ _ _ st') okD okC hm2 fun a3 w3 hm3 => hk st' y0 y1 y2 y3 a3 w3 hm3
    rw [List.append_nil] at this
    exact this
  rw [ways_pieces]
  have h1 := ask1_run n i line hart st.s d0 d1 d2 d3 st.wt st.kp k e0 e1 e2 e3 mk ml mf mt m0' m1 m2 m3 s0 c0 c1 c2 c3 w1 k0 wr h d a'
  cases b1 : (k == 1) with
  | true =>
    rw [b1, cond_true] at h1
    exact mid_ask ask1_draws h1 (okx _ _ _ _ _ _ st) (oky _ _ _ _ _ _ st) okD okC hm fun a2 w2 hm2 => arm arm1_draws (arm1_ok st n i line hart s0 k c0 c1 c2 c3 w1 k0 e0 e1 e2 e3 mk ml mf mt m0' m1 m2 m3 d0 d1 d2 d3 wr h d a') a2 w2 hm2
  | false =>
    rw [b1, cond_false] at h1
    refine mid_ask ask1_draws h1 (okx _ _ _ _ _ _ st) (oky _ _ _ _ _ _ st) okD okC hm fun a2 w2 hm2 => ?_
    rw [cond_false, ways2_pieces]
    have h2 := ask2_run n i line hart st.s d0 d1 d2 d3 st.wt st.kp k e0 e1 e2 e3 mk ml mf mt m0' m1 m2 m3 s0 c0 c1 c2 c3 w1 k0 wr h d a'
    cases b2 : (k == 2) with
    | true =>
      rw [b2, cond_true] at h2
      exact mid_ask ask2_draws h2 (okx _ _ _ _ _ _ st) (oky _ _ _ _ _ _ st) okD okC hm2 fun a3 w3 hm3 => arm arm2_draws (arm2_ok st n i line hart s0 k c0 c1 c2 c3 w1 k0 e0 e1 e2 e3 mk ml mf mt m0' m1 m2 m3 d0 d1 d2 d3 wr h d a') a3 w3 hm3
    | false =>
      rw [b2, cond_false] at h2
      refine mid_ask ask2_draws h2 (okx _ _ _ _ _ _ st) (oky _ _ _ _ _ _ st) okD okC hm2 fun a3 w3 hm3 => ?_
      rw [cond_false, ways3_pieces]
      have h3 := ask3_run n i line hart st.s d0 d1 d2 d3 st.wt st.kp k e0 e1 e2 e3 mk ml mf mt m0' m1 m2 m3 s0 c0 c1 c2 c3 w1 k0 wr h d a'
      cases b3 : (k == 3) with
      | true =>
        rw [b3, cond_true] at h3
        exact mid_ask ask3_draws h3 (okx _ _ _ _ _ _ st) (oky _ _ _ _ _ _ st) okD okC hm3 fun a4 w4 hm4 => arm arm3_draws (arm3_ok st n i line hart s0 k c0 c1 c2 c3 w1 k0 e0 e1 e2 e3 mk ml mf mt m0' m1 m2 m3 d0 d1 d2 d3 wr h d a') a4 w4 hm4
      | false =>
        rw [b3, cond_false] at h3
        exact mid_ask ask3_draws h3 (okx _ _ _ _ _ _ st) (oky _ _ _ _ _ _ st) okD okC hm3 fun a4 w4 hm4 => arm armD_draws (armD_ok st n i line hart s0 k c0 c1 c2 c3 w1 k0 e0 e1 e2 e3 mk ml mf mt m0' m1 m2 m3 d0 d1 d2 d3 wr h d a') a4 w4 hm4
end
def not1 (j : Nat) : Bool := Nat.beq j 0 || Nat.beq j 2 || Nat.beq j 3
theorem not1_lt {j : Nat} (h : not1 j = true) : j < 4 ∧ j ≠ 1 := by
  simp only [not1, Bool.or_eq_true, Nat.beq_eq] at h
  omega
theorem plains_of (line hart d0 d1 d2 d3 : Int) (st : St) : ∀ (j : Nat) (x : Blk), ([none, none, some (st.x line hart d0 d1 d2 d3), some (st.y line hart d0 d1 d2 d3)] : Heap)[j]? = some (some x) → x.view = none ∧ x.cells.all plain = true := by
  intro j x e
  match j, e with
  | 0, e => cases e
  | 1, e => cases e
  | 2, e => cases e; exact okx _ _ _ _ _ _ _
  | 3, e => cases e; exact oky _ _ _ _ _ _ _
  | j + 4, e => cases e
theorem round {w0 : World} {r off n N : Nat} {cs : List Value} (hrow : Row w0 r off n cs) (hn : n ≤ 80) {line hart d0 d1 d2 d3 : Int} {i : Nat} (hi : i < n) {st : St} {a : Act} {w : World}
    (h : Head w0 (r, off, N) n (Int.ofNat i) line hart (st.x line hart d0 d1 d2 d3) (st.y line hart d0 d1 d2 d3) a w) {Q : Exit → Act → World → Prop}
    (hk : ∀ (st' : St) (y0 y1 y2 y3 : Int) a' w', Head w0 (r, off, N) n (Int.ofNat (i + 1)) line hart (st'.x line hart y0 y1 y2 y3) (st'.y line hart y0 y1 y2 y3) a' w' → Q .normal a' w') : loopB.wp Try.prog Q a w := by
  refine wp_of_flat ?_
  rw [loop_pieces]
  have ht := test_run n i line hart st.s d0 d1 d2 d3 st.wt st.kp
  rw [less_true hi, cond_true] at ht
  refine head_step test_draws ht (okx _ _ _ _ _ _ st) (oky _ _ _ _ _ _ st) h fun a1 w1 h1 => ?_
  show wpL Try.prog Q (Code.block 1 inner :: next) a1 w1
  refine wpL_block ?_
  rw [inner_pieces]
  obtain ⟨M, h0, hA⟩ := h1
  obtain ⟨k, wr, e0, e1, e2, e3, mk, ml, mf, mt, m0, m1, m2, m3, hh, d, aa, hel⟩ := hrow.el i hi
  obtain ⟨t, fz, hb⟩ := hrow.block
  have hlen : off + i * 17 + 17 ≤ cs.length := by
    have := congrArg List.length hel
    simp [dB] at this; omega
  have hm1 : ∀ j p, not1 j = true → M[j]? = some p → (M.set 1 (r, off + i * 17, cs.length))[j]? = some p := by
    intro j p hj e
    rw [List.getElem?_set_ne (fun e => (not1_lt hj).2 e.symm)]; exact e
  have hv := hA.view (i := 1) (b := vB k wr e0 e1 e2 e3 mk ml mf mt m0 m1 m2 m3 hh d aa i) (by decide) rfl (plains_of line hart d0 d1 d2 d3 st) hrow.lt hb (s := off + i * 17) hlen rfl hel
    (fun p' o e => by
      have e' : (0, i * 17) = (p', o) := by injection e
      cases e'
      exact ⟨by decide, off, N, h0, rfl⟩) (hA.fr.okv (q := not1) rfl hm1)
  have hf := front_run n i line hart st.s d0 d1 d2 d3 st.wt st.kp k e0 e1 e2 e3 mk ml mf mt m0 m1 m2 m3 wr hh d aa
  rw [inside_true hi, cond_true] at hf
  obtain ⟨r1, hr1⟩ := MO_some n i line hart st.s k (xB line hart st.s d0 d1 d2 d3 st.wt st.kp) (yB line hart st.s d0 d1 d2 d3 st.wt st.kp) (dB k wr e0 e1 e2 e3 mk ml mf mt m0 m1 m2 m3 hh d aa) (xB line hart st.s d0 d1 d2 d3 st.wt st.kp)
  obtain ⟨e, F', H', hl, hOK⟩ := runL_sound tkOK (callK_sound tkOK 30) front front_draws _ _ leafM (hf.trans hr1)
  refine hOK.at_ hv _ fun M2 a2 w2 hle hA2 => ?_
  obtain ⟨rfl, hm2⟩ := mid_again (m0 := (r, off, N)) hA2 (hle 0 _ (hm1 0 _ rfl h0)) (hl.trans hr1.symm) ⟨rfl, rfl⟩ ⟨rfl, rfl⟩ (okd _ _ _ _ _ _ _ _ _ _ _ _ _ _ _ _ _) ⟨rfl, rfl⟩
  refine wpL_block ?_
  refine ways_ok (st := st) hm2 fun st' y0 y1 y2 y3 a3 w3 hm3 => ?_
  show wpL Try.prog _ back a3 w3
  obtain ⟨st2, z0, z1, z2, z3, hbk⟩ := back_ok st' n i line hart st.s k d0 d1 d2 d3 st.wt st.kp e0 e1 e2 e3 mk ml mf mt m0 m1 m2 m3 y0 y1 y2 y3 wr hh d aa
  have key := mid_step (Q := Exit.inBlock 1 (Exit.then (wpL Try.prog Q next) Q)) (rest := []) back_draws hbk (okx _ _ _ _ _ _ st2) (oky _ _ _ _ _ _ st2) (okd _ _ _ _ _ _ _ _ _ _ _ _ _ _ _ _ _) ⟨rfl, rfl⟩ hm3 fun a4 w4 hm4 => by
    show wpL Try.prog Q next a4 w4
    obtain ⟨M4, h04, hA4⟩ := hm4
    have hnx := next_run n i line hart st2.s z0 z1 z2 z3 st2.wt st2.kp k st.s d0 d1 d2 d3 st.wt st.kp e0 e1 e2 e3 mk ml mf mt m0 m1 m2 m3 wr hh d aa
    rw [wrap_succ i (by omega)] at hnx
    obtain ⟨e5, F5, H5, hl5, hOK5⟩ := runL_sound tkOK (callK_sound tkOK 30) next next_draws _ _ leafH hnx
    have := hOK5.at_ (Q := Q) hA4 [] fun M5 a5 w5 hle5 hA5 => by
      obtain ⟨rfl, hh5⟩ := head_again hA5 (hle5 0 _ h04) (hl5 : leafH e5 F5 H5 = HO .normal n (Int.ofNat (i + 1)) line hart (xB line hart st2.s z0 z1 z2 z3 st2.wt st2.kp) (yB line hart st2.s z0 z1 z2 z3 st2.wt st2.kp)) ⟨rfl, rfl⟩ ⟨rfl, rfl⟩
      exact hk st2 z0 z1 z2 z3 a5 w5 hh5
    rw [List.append_nil] at this
    exact this
  rw [List.append_nil] at key
  exact key
theorem ends {w0 : World} {m0 : Pl} {n : Nat} {line hart d0 d1 d2 d3 : Int} {st : St} {a : Act} {w : World}
    (h : Head w0 m0 n (Int.ofNat n) line hart (st.x line hart d0 d1 d2 d3) (st.y line hart d0 d1 d2 d3) a w) {Q : Exit → Act → World → Prop}
    (hk : ∀ a' w', Head w0 m0 n (Int.ofNat n) line hart (st.x line hart d0 d1 d2 d3) (st.y line hart d0 d1 d2 d3) a' w' → Q (.exit 0) a' w') : loopB.wp Try.prog Q a w := by
  refine wp_of_flat ?_
  rw [loop_pieces]
  have ht := test_run n n line hart st.s d0 d1 d2 d3 st.wt st.kp
  rw [less_false (Nat.lt_irrefl n), cond_false] at ht
  exact head_step test_draws ht (okx _ _ _ _ _ _ st) (oky _ _ _ _ _ _ st) h fun a1 w1 h1 => hk a1 w1 h1
theorem all_rounds {w0 : World} {r off n N : Nat} {cs : List Value} (hrow : Row w0 r off n cs) (hn : n ≤ 80) {line hart : Int} {Q : Exit → Act → World → Prop}
    (hk : ∀ (st : St) (d0 d1 d2 d3 : Int) a w, Head w0 (r, off, N) n (Int.ofNat n) line hart (st.x line hart d0 d1 d2 d3) (st.y line hart d0 d1 d2 d3) a w → Q .normal a w) :
    ∀ (m i : Nat) (st : St) (d0 d1 d2 d3 : Int) (a : Act) (w : World), i + m = n → Head w0 (r, off, N) n (Int.ofNat i) line hart (st.x line hart d0 d1 d2 d3) (st.y line hart d0 d1 d2 d3) a w → Code.rounds Try.prog loopB (Exit.inBlock 0 Q) (m + 1) a w
  | 0, i, st, d0, d1, d2, d3, a, w, he, h => by
    obtain rfl : i = n := by omega
    rw [rounds_succ]
    refine ends h fun a' w' ht => ?_
    simp only [Exit.then, Exit.inBlock, if_true]
    exact hk st d0 d1 d2 d3 a' w' ht
  | m + 1, i, st, d0, d1, d2, d3, a, w, he, h => by
    rw [rounds_succ]
    refine round hrow hn (by omega) h fun st' y0 y1 y2 y3 a' w' h' => ?_
    exact all_rounds hrow hn hk m (i + 1) st' y0 y1 y2 y3 a' w' (by omega) h'
theorem f9_ntmps : Try.f9.ntmps = 239 := by kernel_rfl
theorem f9_results : Try.f9.results.toList = [.tmp 6] := by kernel_rfl
theorem ret_post {B : Nat} {w0 : World} {lo n : Nat} {M : Mp} {F : Fr} {H : Heap} {a : Act} {w : World} (h : At B w0 lo n M F H a w) (hB : B = w0.heap.size) (h6 : F.get 6 = some (.bool true)) :
    bodyPost Try.prog Try.f9 (fun e w' => e = .returned (.bool true) ∧ Below w0.heap.size w0 w') .ret a w := by
  have hr : resA (ctx noΦ).T F H Try.f9.results.toList = some [.bool true] := by
    rw [f9_results]; simp only [resA, h6]
  obtain ⟨rv, h1, h2⟩ := results_sound noOK h.rel h.fr hr
  have : rv = .bool true := plain_eq rfl h1
  subst this
  exact ⟨h.defers, _, h2, rfl, hB ▸ h.below⟩
theorem gt_false {n : Nat} (h : decide (Int.ofNat n > 80) = false) : n ≤ 80 := by
  have h := of_decide_eq_false h
  have : ¬ ((80 : Int) < Int.ofNat n) := h
  have e : Int.ofNat n = (n : Int) := rfl
  rw [e] at this
  omega
theorem selIx : ∀ (i s : Nat), ([0, 1, 18, 19] : List Nat)[i]? = some s → (i = s ∧ i < 2) ∨ (i = 2 ∧ s = 18) ∨ (i = 3 ∧ s = 19) := by
  intro i s e
  match i, e with
  | 0, e => cases e; exact .inl ⟨rfl, by decide⟩
  | 1, e => cases e; exact .inl ⟨rfl, by decide⟩
  | 2, e => cases e; exact .inr (.inl ⟨rfl, rfl⟩)
  | 3, e => cases e; exact .inr (.inr ⟨rfl, rfl⟩)
  | i + 4, e => cases e
theorem lonePlays_some {w : World} {r off n c : Nat} {cs : List Value} (hrow : Row w r off n cs) (hnc : n ≤ c) (line hart : Int) :
    Calls Try.prog 9 #[.int .i64 line, .int .i64 hart, .slice (some ⟨r, off, none⟩) n c] w fun e w' => e = .returned (.bool true) ∧ Below w.heap.size w w' := by
  refine calls_of_wp Try.func9 code_eq (wp_of_flat ?_)
  rw [code_pieces]
  let m0 : Pl := (r, off, off + c * 17)
  have hS : At w.heap.size w 2 239 [m0, m0] (enterF 0 [.int .i64 line, .int .i64 hart, sl n]) [none, none]
      { tmps := #[.int .i64 line, .int .i64 hart, .slice (some ⟨r, off, none⟩) n c] ++ Array.replicate (Try.f9.ntmps - 3) undef, defers := [] } w := by
    refine At.start (M := [m0, m0]) (fun i p e => ?_) ?_ ?_ rfl
    · match i, e with
      | 0, e => cases e; exact hrow.lt
      | 1, e => cases e; exact hrow.lt
      | i + 2, e => cases e
    · refine enterF_FR (rargs := [.int .i64 line, .int .i64 hart, .slice (some ⟨r, off, none⟩) n c]) (.cons (.int _ _) (.cons (.int _ _) (.cons ?_ .nil))) _
      exact VR.slice (o := 0) (s := off) (N := off + c * 17) rfl hnc (by omega)
    · rw [f9_ntmps]; simp
  have ha := ahead n line hart
  cases hg : decide (Int.ofNat n > 80) with
  | true =>
    rw [hg, cond_true] at ha
    obtain ⟨e, F', H', hleaf, hOK⟩ := runL_sound (P := Try.prog) tkOK (callK_sound tkOK 30) pre pre_draws _ _ leafP ha
    simp only [leafP, Option.some.injEq, Prod.mk.injEq] at hleaf
    obtain ⟨rfl, f6, _⟩ := hleaf
    exact hOK.at_ hS _ fun M' a' w' hle hA' => ret_post hA' rfl f6
  | false =>
    rw [hg, cond_false] at ha
    obtain ⟨e, F', H', hleaf, hOK⟩ := runL_sound (P := Try.prog) tkOK (callK_sound tkOK 30) pre pre_draws _ _ leafP ha
    simp only [leafP, Option.some.injEq, Prod.mk.injEq] at hleaf
    obtain ⟨rfl, f6, f0, f1, f2, f8, f9, f10, g18, g19⟩ := hleaf
    refine hOK.at_ hS _ fun M' a' w' hle hA' => ?_
    have hn := gt_false hg
    have hl : 19 < M'.length := by rw [hA'.rel.len]; exact (List.getElem?_eq_some_iff.1 g19).1
    have hm : ∀ j p, Nat.ble j 1 = true → M'[j]? = some p → (selM M' [0, 1, 18, 19])[j]? = some p := by
      intro j p hj e
      have hj : j < 2 := Nat.lt_succ_of_le (Nat.le_of_ble_eq_true hj)
      rw [selM_get (s := j) (by match j, hj with | 0, _ => rfl | 1, _ => rfl) (by omega)]; exact e
    have hF : FR (selM M' [0, 1, 18, 19]) (headF n (Int.ofNat 0) line hart) a'.tmps := by
      refine FR.list fun e he => ?_
      simp only [headF, List.mem_cons, List.not_mem_nil, or_false] at he
      rcases he with rfl | rfl | rfl | rfl | rfl | rfl
      · exact pick (q := fun j => Nat.ble j 1) hA'.fr f0 rfl hm
      · exact pick (q := fun j => Nat.ble j 1) hA'.fr f1 rfl hm
      · exact pick (q := fun j => Nat.ble j 1) hA'.fr f2 rfl hm
      · obtain ⟨u, h1, h2⟩ := hA'.fr 8 _ f8
        refine ⟨u, h1, ?_⟩
        cases h2 with
        | ptr e => exact .ptr (by rw [selM_get (s := 18) rfl (by omega)]; exact e)
      · obtain ⟨u, h1, h2⟩ := hA'.fr 9 _ f9
        refine ⟨u, h1, ?_⟩
        cases h2 with
        | ptr e => exact .ptr (by rw [selM_get (s := 19) rfl hl]; exact e)
      · exact pick (q := fun j => Nat.ble j 1) hA'.fr f10 rfl hm
    have hH : Head w m0 n (Int.ofNat 0) line hart (St.x line hart 0 0 0 0 .a0) (St.y line hart 0 0 0 0 .a0) a' w' := by
      refine ⟨selM M' [0, 1, 18, 19], hm 0 _ rfl (hle 0 _ rfl), hA'.sel [0, 1, 18, 19] rfl (fun s hs => ?_) (fun i s e => ?_) (fun i j s e1 e2 => ?_) (fun i b e => ?_) hF⟩
      · have : ∀ s ∈ ([0, 1, 18, 19] : List Nat), s < 20 := by decide
        have := this s hs
        omega
      · rcases selIx i s e with ⟨h, _⟩ | ⟨h, h'⟩ | ⟨h, h'⟩ <;> omega
      · rcases selIx i s e1 with ⟨h, _⟩ | ⟨h, h'⟩ | ⟨h, h'⟩ <;> rcases selIx j s e2 with ⟨k, _⟩ | ⟨k, k'⟩ | ⟨k, k'⟩ <;> omega
      · match i, e with
        | 0, e => cases e
        | 1, e => cases e
        | 2, e => cases e; exact ⟨18, rfl, g18, rfl, rfl, fun _ => by decide⟩
        | 3, e => cases e; exact ⟨19, rfl, g19, rfl, rfl, fun _ => by decide⟩
        | j + 4, e => cases e
    show wpL Try.prog _ (Code.block 0 (Code.loop loopB) :: post) a' w'
    refine wp_block (wp_loop_rounds (n + 1) (all_rounds hrow hn (fun st d0 d1 d2 d3 a2 w2 ht => ?_) n 0 .a0 0 0 0 0 a' w' (by omega) hH))
    obtain ⟨M2, _, hA2⟩ := ht
    obtain ⟨e, F2, H2, hleaf2, hOK2⟩ := runL_sound (P := Try.prog) tkOK (callK_sound tkOK 30) post post_draws _ _ (fun e F H => some (e, F.get 6)) (post_run n (Int.ofNat n) line hart st.s d0 d1 d2 d3 st.wt st.kp)
    simp only [Option.some.injEq, Prod.mk.injEq] at hleaf2
    obtain ⟨rfl, f6'⟩ := hleaf2
    have := hOK2.at_ (Q := bodyPost Try.prog Try.f9 fun e w' => e = .returned (.bool true) ∧ Below w.heap.size w w') hA2 [] fun M3 a3 w3 hle3 hA3 => ret_post hA3 rfl f6'
    rw [List.append_nil] at this
    exact this
theorem lonePlays_nil (line hart : Int) (w : World) :
    Calls Try.prog 9 #[.int .i64 line, .int .i64 hart, .slice none 0 0] w fun e w' => e = .returned (.bool true) ∧ Below w.heap.size w w' :=
  calls_of_run tkOK (args := [.int .i64 line, .int .i64 hart, .slice none 0 0]) rfl rfl (nils line hart) w
end Go.Proofs.Ytecmjcfhbedelaa.Ab.LP
