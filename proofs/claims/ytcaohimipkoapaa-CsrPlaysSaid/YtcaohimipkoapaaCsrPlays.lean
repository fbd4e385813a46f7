/- CsrPlays: what the law's runs come to, for every slice. -/
import Derived.Test.YtcaohimipkoapaaCsrPlaysOk
namespace Go.Proofs.Ytcaohimipkoapaa.Ab.CP
open Go Go.RowKit
set_option linter.unusedVariables false
set_option linter.unusedSimpArgs false
theorem less_true {i n : Nat} (h : i < n) : less i n = true := by
  unfold less; exact decide_eq_true (Int.ofNat_lt.2 h)
theorem less_false {i n : Nat} (h : ¬ i < n) : less i n = false := by
  unfold less; exact decide_eq_false fun k => h (Int.ofNat_lt.1 k)
theorem inside_true {i n : Nat} (h : i < n) : inside i n = true := by
  unfold inside
  rw [less_true h]
  have : (Int.ofNat i).toNat = i := rfl
  rw [this, Nat.zero_add, Nat.beq_refl]; rfl
theorem wrap_succ : ∀ i, i < 60 → IntKind.i64.wrap (Int.ofNat i + 1) = Int.ofNat (i + 1) := by decide
theorem okf (u : Bool) (v0 v1 v2 v3 v4 v5 v6 v7 v8 v9 : Int) : OKB (fB u v0 v1 v2 v3 v4 v5 v6 v7 v8 v9) := ⟨rfl, rfl⟩
theorem okx (m v0 v1 v2 v3 v4 v5 v6 v7 v8 v9 : Int) : OKB (xB m v0 v1 v2 v3 v4 v5 v6 v7 v8 v9) := ⟨rfl, rfl⟩
theorem okw (v0 v1 v2 v3 v4 v5 v6 v7 v8 v9 : Int) : OKB (wB v0 v1 v2 v3 v4 v5 v6 v7 v8 v9) := ⟨rfl, rfl⟩
theorem okd (k nn vv ww pc : Int) : OKB (dB k nn vv ww pc) := ⟨rfl, rfl⟩
theorem pick {M M' : Mp} {F : Fr} {tmps : Array Value} (h : FR M F tmps) {q : Nat → Bool} {t : Nat} {v : Value} (hv : F.get t = some v) (hq : okv q v = true) (hm : ∀ j p, q j = true → M[j]? = some p → M'[j]? = some p) : ∃ u, tmps[t]? = some u ∧ VR M' v u :=
  let ⟨u, h1, h2⟩ := h t v hv
  ⟨u, h1, h2.okv hq hm⟩
/-- The row that is handed in. -/
structure Row (w0 : World) (r off n : Nat) (cs : List Value) : Prop where
  block : ∃ t fz, w0.heap[r]? = some (.cells cs.toArray t fz)
  el : ∀ i, i < n → ∃ (k nn vv ww pc : Int), (cs.drop (off + i * 5)).take 5 = (dB k nn vv ww pc).cells
theorem Row.lt {w0 : World} {r off n : Nat} {cs : List Value} (h : Row w0 r off n cs) : r < w0.heap.size := by
  obtain ⟨t, fz, h⟩ := h.block
  exact (Array.getElem?_eq_some_iff.1 h).1
/-- A round begins, or its test is behind. -/
def Head (w0 : World) (m0 : Pl) (n : Nat) (j : Int) (F X : Blk) (a : Act) (w : World) : Prop :=
  ∃ M : Mp, M[0]? = some m0 ∧ At w0.heap.size w0 2 158 M (headF n j) (headH F X) a w
/-- Within a round. -/
def Mid (w0 : World) (m0 : Pl) (n i : Nat) (k : Int) (F X D C W : Blk) (a : Act) (w : World) : Prop :=
  ∃ M : Mp, M[0]? = some m0 ∧ At w0.heap.size w0 2 158 M (midF n (Int.ofNat i) k) (midH F X D C W) a w
theorem mid_again {w0 : World} {m0 : Pl} {M' : Mp} {F' : Fr} {H' : Heap} {a' : Act} {w' : World} {e : Exit} {n i : Nat} {k : Int} {F X D C W : Blk} (hA : At w0.heap.size w0 2 158 M' F' H' a' w') (h0 : M'[0]? = some m0)
    (hl : leafM e F' H' = MO n i k F X D C W) (hF : OKB F) (hX : OKB X) (hD : OKB D) (hC : OKB C) (hW : OKB W) : e = .normal ∧ Mid w0 m0 n i k F X D C W a' w' := by
  unfold leafM at hl
  split at hl
  · cases hl
  · simp only [MO, slots, Option.some.injEq, Prod.mk.injEq] at hl
    obtain ⟨⟨rfl, f48, f1, f6, f7, f8, f9, f10, f11⟩, g1, g2, g3, g4, g5⟩ := hl
    have hlen : 6 ≤ H'.length := (List.getElem?_eq_some_iff.1 g5).1
    obtain ⟨M2, hM2, hA2⟩ := hA.keep (F' := midF n (Int.ofNat i) k) (H' := midH F X D C W) 6 hlen rfl (fun j b e => by
      match j, e with
      | 0, e => cases e
      | 1, e => cases e; exact ⟨g1, hD⟩
      | 2, e => cases e; exact ⟨g2, hF⟩
      | 3, e => cases e; exact ⟨g3, hX⟩
      | 4, e => cases e; exact ⟨g4, hC⟩
      | 5, e => cases e; exact ⟨g5, hW⟩
      | j + 6, e => cases e) (fun e he => by
      simp only [midF, List.mem_cons, List.not_mem_nil, or_false] at he
      rcases he with rfl | rfl | rfl | rfl | rfl | rfl | rfl | rfl
      · exact ⟨f48, rfl⟩
      · exact ⟨f1, rfl⟩
      · exact ⟨f6, rfl⟩
      · exact ⟨f7, rfl⟩
      · exact ⟨f8, rfl⟩
      · exact ⟨f9, rfl⟩
      · exact ⟨f10, rfl⟩
      · exact ⟨f11, rfl⟩)
    exact ⟨rfl, M2, by rw [hM2 0 (by decide)]; exact h0, hA2⟩
theorem head_again {w0 : World} {m0 : Pl} {M' : Mp} {F' : Fr} {H' : Heap} {a' : Act} {w' : World} {e e' : Exit} {n : Nat} {j : Int} {F X : Blk} (hA : At w0.heap.size w0 2 158 M' F' H' a' w') (h0 : M'[0]? = some m0)
    (hl : leafH e F' H' = HO e' n j F X) (hF : OKB F) (hX : OKB X) : e = e' ∧ Head w0 m0 n j F X a' w' := by
  simp only [leafH, HO, Option.some.injEq, Prod.mk.injEq] at hl
  obtain ⟨rfl, f1, f6, f7, f8, g2, g3⟩ := hl
  have hlen : 4 ≤ H'.length := (List.getElem?_eq_some_iff.1 g3).1
  obtain ⟨M2, hM2, hA2⟩ := hA.keep (F' := headF n j) (H' := headH F X) 4 hlen rfl (fun i b e => by
    match i, e with
    | 0, e => cases e
    | 1, e => cases e
    | 2, e => cases e; exact ⟨g2, hF⟩
    | 3, e => cases e; exact ⟨g3, hX⟩
    | i + 4, e => cases e) (fun e he => by
    simp only [headF, List.mem_cons, List.not_mem_nil, or_false] at he
    rcases he with rfl | rfl | rfl | rfl
    · exact ⟨f1, rfl⟩
    · exact ⟨f6, rfl⟩
    · exact ⟨f7, rfl⟩
    · exact ⟨f8, rfl⟩)
  exact ⟨rfl, M2, by rw [hM2 0 (by decide)]; exact h0, hA2⟩
theorem MO_some (n i : Nat) (k : Int) (F X D C W : Blk) : ∃ r, MO n i k F X D C W = some r := ⟨_, rfl⟩
/-- A piece within a round. -/
theorem mid_step {w0 : World} {m0 : Pl} {n i : Nat} {k : Int} {F X D C W F2 X2 : Blk} {Ψ : Oracle} (hΨ : CtxOK Try.prog (ctx Ψ)) {piece rest : List Code} {Q : Exit → Act → World → Prop} {a : Act} {w : World} (hd : piece.all (drawsOK (drs 12)) = true)
    (hrun : run Ψ piece (midF n (Int.ofNat i) k) (midH F X D C W) leafM = MO n i k F2 X2 D C W)
    (hF : OKB F2) (hX : OKB X2) (hD : OKB D) (hC : OKB C) (hW : OKB W) (hm : Mid w0 m0 n i k F X D C W a w) (hk : ∀ a' w', Mid w0 m0 n i k F2 X2 D C W a' w' → wpL Try.prog Q rest a' w') : wpL Try.prog Q (piece ++ rest) a w := by
  obtain ⟨M, h0, hA⟩ := hm
  obtain ⟨r, hr⟩ := MO_some n i k F2 X2 D C W
  obtain ⟨e, F', H', hl, hOK⟩ := runL_sound hΨ (callK_sound hΨ 30) piece hd _ _ leafM (hrun.trans hr)
  refine hOK.at_ hA _ fun M' a' w' hle hA' => ?_
  obtain ⟨rfl, hm'⟩ := mid_again hA' (hle 0 _ h0) (hl.trans hr.symm) hF hX hD hC hW
  exact hk a' w' hm'
/-- A question within a round. -/
theorem mid_ask {w0 : World} {m0 : Pl} {n i : Nat} {k : Int} {F X D C W : Blk} {piece : List Code} {t : Tmp} {b : Bool} {x y : Code} {Q : Exit → Act → World → Prop} {a : Act} {w : World} (hd : piece.all (drawsOK (drs 12)) = true)
    (hrun : run noΦ piece (midF n (Int.ofNat i) k) (midH F X D C W) (leafT t) = MT n i k F X D C W b)
    (hF : OKB F) (hX : OKB X) (hD : OKB D) (hC : OKB C) (hW : OKB W) (hm : Mid w0 m0 n i k F X D C W a w) (hk : ∀ a' w', Mid w0 m0 n i k F X D C W a' w' → wpL Try.prog Q (flat (bif b then x else y)) a' w') :
    wpL Try.prog Q (piece ++ [Code.cond (.tmp t) x y]) a w := by
  obtain ⟨M, h0, hA⟩ := hm
  obtain ⟨r, hr⟩ := MO_some n i k F X D C W
  have hrun' : run noΦ piece (midF n (Int.ofNat i) k) (midH F X D C W) (leafT t) = some (r, some (.bool b)) := by
    rw [hrun]; unfold MT; rw [hr]
  obtain ⟨e, F', H', hl, hOK⟩ := runL_sound noOK (callK_sound noOK 30) piece hd _ _ (leafT t) hrun'
  refine hOK.at_ hA _ fun M' a' w' hle hA' => ?_
  unfold leafT at hl
  split at hl
  · rename_i z hz
    simp only [Option.some.injEq, Prod.mk.injEq] at hl
    obtain ⟨rfl, hb⟩ := hl
    obtain ⟨rfl, hm'⟩ := mid_again hA' (hle 0 _ h0) (hz.trans hr.symm) hF hX hD hC hW
    refine wpL_cond hA'.fr hb ?_
    rw [List.append_nil]
    exact hk a' w' hm'
  · cases hl
theorem head_step {w0 : World} {m0 : Pl} {n : Nat} {j j' : Int} {F X F2 X2 : Blk} {piece rest : List Code} {e : Exit} {Q : Exit → Act → World → Prop} {a : Act} {w : World} (hd : piece.all (drawsOK (drs 12)) = true)
    (hrun : run noΦ piece (headF n j) (headH F X) leafH = HO e n j' F2 X2)
    (hF : OKB F2) (hX : OKB X2) (hm : Head w0 m0 n j F X a w) (hk : ∀ a' w', Head w0 m0 n j' F2 X2 a' w' → Exit.then (wpL Try.prog Q rest) Q e a' w') : wpL Try.prog Q (piece ++ rest) a w := by
  obtain ⟨M, h0, hA⟩ := hm
  obtain ⟨e', F', H', hl, hOK⟩ := runL_sound noOK (callK_sound noOK 30) piece hd _ _ leafH hrun
  refine hOK.at_ hA _ fun M' a' w' hle hA' => ?_
  obtain ⟨rfl, hm'⟩ := head_again hA' (hle 0 _ h0) (hl : leafH e' F' H' = HO e n j' F2 X2) hF hX
  exact hk a' w' hm'
section
variable {w0 : World} {m0 : Pl} {n i : Nat} {k nn vv ww pc v0 v1 v2 v3 v4 v5 v6 v7 v8 v9 c0 c1 c2 c3 c4 c5 c6 c7 c8 c9 : Int} {u cu : Bool}
/-- A piece that comes to the same in both files. -/
theorem same_step {p rest : List Code} {D C W : Blk} (hD : OKB D) (hC : OKB C) (hW : OKB W) (hd : p.all (drawsOK (drs 12)) = true) (hp : Comes p n i k u v0 v1 v2 v3 v4 v5 v6 v7 v8 v9 D C W) {Q : Exit → Act → World → Prop} {a : Act} {w : World}
    (hm : Mid w0 m0 n i k (fB u v0 v1 v2 v3 v4 v5 v6 v7 v8 v9) (xB (md u) v0 v1 v2 v3 v4 v5 v6 v7 v8 v9) D C W a w)
    (hk : ∀ (u' : Bool) (y0 y1 y2 y3 y4 y5 y6 y7 y8 y9 : Int) a2 w2, Mid w0 m0 n i k (fB u' y0 y1 y2 y3 y4 y5 y6 y7 y8 y9) (xB (md u') y0 y1 y2 y3 y4 y5 y6 y7 y8 y9) D C W a2 w2 → wpL Try.prog Q rest a2 w2) : wpL Try.prog Q (p ++ rest) a w := by
  obtain ⟨Ψ, u', y0, y1, y2, y3, y4, y5, y6, y7, y8, y9, hΨ, hr⟩ := hp
  exact mid_step hΨ hd hr (okf _ _ _ _ _ _ _ _ _ _ _) (okx _ _ _ _ _ _ _ _ _ _ _) hD hC hW hm fun a2 w2 hm2 => hk u' y0 y1 y2 y3 y4 y5 y6 y7 y8 y9 a2 w2 hm2
/-- The five ways of a round. -/
theorem ways_ok {Q : Exit → Act → World → Prop} {a : Act} {w : World} (hm : Mid w0 m0 n i k (fB u v0 v1 v2 v3 v4 v5 v6 v7 v8 v9) (xB (md u) v0 v1 v2 v3 v4 v5 v6 v7 v8 v9) (dB k nn vv ww pc) (fB cu c0 c1 c2 c3 c4 c5 c6 c7 c8 c9) (wB c0 c1 c2 c3 c4 c5 c6 c7 c8 c9) a w)
    (hk : ∀ (u' : Bool) (y0 y1 y2 y3 y4 y5 y6 y7 y8 y9 : Int) a2 w2, Mid w0 m0 n i k (fB u' y0 y1 y2 y3 y4 y5 y6 y7 y8 y9) (xB (md u') y0 y1 y2 y3 y4 y5 y6 y7 y8 y9) (dB k nn vv ww pc) (fB cu c0 c1 c2 c3 c4 c5 c6 c7 c8 c9) (wB c0 c1 c2 c3 c4 c5 c6 c7 c8 c9) a2 w2 → Q .normal a2 w2) : wpL Try.prog Q (flat way1) a w := by
  have oF := okf u v0 v1 v2 v3 v4 v5 v6 v7 v8 v9
  have oX := okx (md u) v0 v1 v2 v3 v4 v5 v6 v7 v8 v9
  have oD := okd k nn vv ww pc
  have oC := okf cu c0 c1 c2 c3 c4 c5 c6 c7 c8 c9
  have oW := okw c0 c1 c2 c3 c4 c5 c6 c7 c8 c9
  have arm : ∀ {p : List Code}, p.all (drawsOK (drs 12)) = true → Comes p n i k u v0 v1 v2 v3 v4 v5 v6 v7 v8 v9 (dB k nn vv ww pc) (fB cu c0 c1 c2 c3 c4 c5 c6 c7 c8 c9) (wB c0 c1 c2 c3 c4 c5 c6 c7 c8 c9) →
      ∀ a2 w2, Mid w0 m0 n i k (fB u v0 v1 v2 v3 v4 v5 v6 v7 v8 v9) (xB (md u) v0 v1 v2 v3 v4 v5 v6 v7 v8 v9) (dB k nn vv ww pc) (fB cu c0 c1 c2 c3 c4 c5 c6 c7 c8 c9) (wB c0 c1 c2 c3 c4 c5 c6 c7 c8 c9) a2 w2 → wpL Try.prog Q p a2 w2 := by
    intro p hd hp a2 w2 hm2
    have := same_step (Q := Q) (rest := []) oD oC oW hd hp hm2 fun u' y0 y1 y2 y3 y4 y5 y6 y7 y8 y9 a3 w3 hm3 => hk u' y0 y1 y2 y3 y4 y5 y6 y7 y8 y9 a3 w3 hm3
    rw [List.append_nil] at this
    exact this
  rw [way1_pieces]
  have h1 := ask1_run n i k nn vv ww pc (md u) v0 v1 v2 v3 v4 v5 v6 v7 v8 v9 c0 c1 c2 c3 c4 c5 c6 c7 c8 c9 u cu
  cases b1 : (k == 1) with
  | true =>
    rw [b1, cond_true] at h1
    exact mid_ask ask1_draws h1 oF oX oD oC oW hm fun a2 w2 hm2 => arm arm1_draws (arm1_ok u n i k nn vv ww pc v0 v1 v2 v3 v4 v5 v6 v7 v8 v9 c0 c1 c2 c3 c4 c5 c6 c7 c8 c9 cu) a2 w2 hm2
  | false =>
    rw [b1, cond_false] at h1
    refine mid_ask ask1_draws h1 oF oX oD oC oW hm fun a2 w2 hm2 => ?_
    rw [cond_false, way2_pieces]
    have h2 := ask2_run n i k nn vv ww pc (md u) v0 v1 v2 v3 v4 v5 v6 v7 v8 v9 c0 c1 c2 c3 c4 c5 c6 c7 c8 c9 u cu
    cases b2 : (k == 2) with
    | true =>
      rw [b2, cond_true] at h2
      exact mid_ask ask2_draws h2 oF oX oD oC oW hm2 fun a3 w3 hm3 => arm arm2_draws (arm2_ok u n i k nn vv ww pc v0 v1 v2 v3 v4 v5 v6 v7 v8 v9 c0 c1 c2 c3 c4 c5 c6 c7 c8 c9 cu) a3 w3 hm3
    | false =>
      rw [b2, cond_false] at h2
      refine mid_ask ask2_draws h2 oF oX oD oC oW hm2 fun a3 w3 hm3 => ?_
      rw [cond_false, way3_pieces]
      have h3 := ask3_run n i k nn vv ww pc (md u) v0 v1 v2 v3 v4 v5 v6 v7 v8 v9 c0 c1 c2 c3 c4 c5 c6 c7 c8 c9 u cu
      cases b3 : (k == 3) with
      | true =>
        rw [b3, cond_true] at h3
        exact mid_ask ask3_draws h3 oF oX oD oC oW hm3 fun a4 w4 hm4 => arm arm3_draws (arm3_ok u n i k nn vv ww pc v0 v1 v2 v3 v4 v5 v6 v7 v8 v9 c0 c1 c2 c3 c4 c5 c6 c7 c8 c9 cu) a4 w4 hm4
      | false =>
        rw [b3, cond_false] at h3
        refine mid_ask ask3_draws h3 oF oX oD oC oW hm3 fun a4 w4 hm4 => ?_
        rw [cond_false, way4_pieces]
        have h4 := ask4_run n i k nn vv ww pc (md u) v0 v1 v2 v3 v4 v5 v6 v7 v8 v9 c0 c1 c2 c3 c4 c5 c6 c7 c8 c9 u cu
        cases b4 : (k == 4) with
        | true =>
          rw [b4, cond_true] at h4
          exact mid_ask ask4_draws h4 oF oX oD oC oW hm4 fun a5 w5 hm5 => arm arm4_draws (arm4_ok u n i k nn vv ww pc v0 v1 v2 v3 v4 v5 v6 v7 v8 v9 c0 c1 c2 c3 c4 c5 c6 c7 c8 c9 cu) a5 w5 hm5
        | false =>
          rw [b4, cond_false] at h4
          exact mid_ask ask4_draws h4 oF oX oD oC oW hm4 fun a5 w5 hm5 => arm armD_draws (armD_ok u n i k nn vv ww pc v0 v1 v2 v3 v4 v5 v6 v7 v8 v9 c0 c1 c2 c3 c4 c5 c6 c7 c8 c9 cu) a5 w5 hm5
end
def not1 (j : Nat) : Bool := Nat.beq j 0 || Nat.beq j 2 || Nat.beq j 3
theorem not1_lt {j : Nat} (h : not1 j = true) : j < 4 ∧ j ≠ 1 := by
  simp only [not1, Bool.or_eq_true, Nat.beq_eq] at h
  omega
theorem plains_of (u : Bool) (m v0 v1 v2 v3 v4 v5 v6 v7 v8 v9 : Int) : ∀ (j : Nat) (x : Blk), (headH (fB u v0 v1 v2 v3 v4 v5 v6 v7 v8 v9) (xB m v0 v1 v2 v3 v4 v5 v6 v7 v8 v9))[j]? = some (some x) → x.view = none ∧ x.cells.all plain = true := by
  intro j x e
  match j, e with
  | 0, e => cases e
  | 1, e => cases e
  | 2, e => cases e; exact okf _ _ _ _ _ _ _ _ _ _ _
  | 3, e => cases e; exact okx _ _ _ _ _ _ _ _ _ _ _
  | j + 4, e => cases e
theorem NO_some (n i : Nat) (k : Int) (F X D C W : Blk) : ∃ r, NO n i k F X D C W = some r := ⟨_, rfl⟩
theorem midIx : ∀ (i s : Nat), ([0, 4, 2, 3, 5, 6] : List Nat)[i]? = some s → (i = 0 ∧ s = 0) ∨ (i = 1 ∧ s = 4) ∨ (i = 2 ∧ s = 2) ∨ (i = 3 ∧ s = 3) ∨ (i = 4 ∧ s = 5) ∨ (i = 5 ∧ s = 6) := by
  intro i s e
  match i, e with
  | 0, e => cases e; exact .inl ⟨rfl, rfl⟩
  | 1, e => cases e; exact .inr (.inl ⟨rfl, rfl⟩)
  | 2, e => cases e; exact .inr (.inr (.inl ⟨rfl, rfl⟩))
  | 3, e => cases e; exact .inr (.inr (.inr (.inl ⟨rfl, rfl⟩)))
  | 4, e => cases e; exact .inr (.inr (.inr (.inr (.inl ⟨rfl, rfl⟩))))
  | 5, e => cases e; exact .inr (.inr (.inr (.inr (.inr ⟨rfl, rfl⟩))))
  | i + 6, e => cases e
/-- Behind the round's first part: told anew, the step that was copied below what may be written. -/
theorem mid_first {w0 : World} {m0 : Pl} {M : Mp} {F' : Fr} {H' : Heap} {a : Act} {w : World} {e : Exit} {n i : Nat} {k : Int} {F X D C W : Blk} (hA : At w0.heap.size w0 2 158 M F' H' a w) (h0 : M[0]? = some m0)
    (hl : leafN e F' H' = NO n i k F X D C W) (hF : OKB F) (hX : OKB X) (hD : OKB D) (hC : OKB C) (hW : OKB W) : e = .normal ∧ Mid w0 m0 n i k F X D C W a w := by
  simp only [leafN, NO, slots, Option.some.injEq, Prod.mk.injEq] at hl
  obtain ⟨⟨rfl, f48, f1, f6, f7, f8, f9, f10, f11⟩, g2, g3, g4, g5, g6⟩ := hl
  have hl : 6 < M.length := by rw [hA.rel.len]; exact (List.getElem?_eq_some_iff.1 g6).1
  have at_ : ∀ (i s : Nat), ([0, 4, 2, 3, 5, 6] : List Nat)[i]? = some s → (selM M [0, 4, 2, 3, 5, 6])[i]? = M[s]? := fun i s e => selM_get e (by rcases midIx i s e with ⟨_, h⟩ | ⟨_, h⟩ | ⟨_, h⟩ | ⟨_, h⟩ | ⟨_, h⟩ | ⟨_, h⟩ <;> omega)
  have int : ∀ (t : Nat) (kk : IntKind) (x : Int), F'.get t = some (.int kk x) → ∃ u, a.tmps[t]? = some u ∧ VR (selM M [0, 4, 2, 3, 5, 6]) (.int kk x) u := fun t kk x e => by
    obtain ⟨u, h1, h2⟩ := hA.fr t _ e
    exact ⟨u, h1, by cases h2; exact .int _ _⟩
  have ptr : ∀ (t i s : Nat), ([0, 4, 2, 3, 5, 6] : List Nat)[i]? = some s → F'.get t = some (pt s) → ∃ u, a.tmps[t]? = some u ∧ VR (selM M [0, 4, 2, 3, 5, 6]) (pt i) u := fun t i s hs e => by
    obtain ⟨u, h1, h2⟩ := hA.fr t _ e
    refine ⟨u, h1, ?_⟩
    cases h2 with
    | ptr e => exact .ptr (by rw [at_ i s hs]; exact e)
  refine ⟨rfl, selM M [0, 4, 2, 3, 5, 6], by rw [at_ 0 0 rfl]; exact h0, hA.selB [0, 4, 2, 3, 5, 6] rfl (fun s hs => ?_) (fun i s e => ?_) (fun i j s e1 e2 => ?_) (fun i b e => ?_) (FR.list fun e he => ?_)⟩
  · have : ∀ s ∈ ([0, 4, 2, 3, 5, 6] : List Nat), s < 7 := by decide
    have := this s hs
    omega
  · rcases midIx i s e with ⟨_, _⟩ | ⟨_, _⟩ | ⟨_, _⟩ | ⟨_, _⟩ | ⟨_, _⟩ | ⟨_, _⟩ <;> omega
  · rcases midIx i s e1 with ⟨_, _⟩ | ⟨_, _⟩ | ⟨_, _⟩ | ⟨_, _⟩ | ⟨_, _⟩ | ⟨_, _⟩ <;> rcases midIx j s e2 with ⟨_, _⟩ | ⟨_, _⟩ | ⟨_, _⟩ | ⟨_, _⟩ | ⟨_, _⟩ | ⟨_, _⟩ <;> omega
  · match i, e with
    | 0, e => cases e
    | 1, e => cases e; exact ⟨4, rfl, g4, hD.1, hD.2⟩
    | 2, e => cases e; exact ⟨2, rfl, g2, hF.1, hF.2⟩
    | 3, e => cases e; exact ⟨3, rfl, g3, hX.1, hX.2⟩
    | 4, e => cases e; exact ⟨5, rfl, g5, hC.1, hC.2⟩
    | 5, e => cases e; exact ⟨6, rfl, g6, hW.1, hW.2⟩
    | j + 6, e => cases e
  · simp only [midF, List.mem_cons, List.not_mem_nil, or_false] at he
    rcases he with rfl | rfl | rfl | rfl | rfl | rfl | rfl | rfl
    · exact int 48 _ _ f48
    · obtain ⟨u, h1, h2⟩ := hA.fr 1 _ f1
      refine ⟨u, h1, ?_⟩
      cases h2 with
      | slice e a b => exact .slice (by rw [at_ 0 0 rfl]; exact e) a b
    · exact ptr 6 2 2 rfl f6
    · exact ptr 7 3 3 rfl f7
    · exact int 8 _ _ f8
    · exact ptr 9 1 4 rfl f9
    · exact ptr 10 4 5 rfl f10
    · obtain ⟨u, h1, h2⟩ := hA.fr 11 _ f11
      refine ⟨u, h1, ?_⟩
      cases h2 with
      | slice e a b => exact .slice (by rw [at_ 5 6 rfl]; exact e) a b
theorem round {w0 : World} {r off n N : Nat} {cs : List Value} (hrow : Row w0 r off n cs) (hn : n ≤ 60) {u : Bool} {v0 v1 v2 v3 v4 v5 v6 v7 v8 v9 : Int} {i : Nat} (hi : i < n) {a : Act} {w : World}
    (h : Head w0 (r, off, N) n (Int.ofNat i) (fB u v0 v1 v2 v3 v4 v5 v6 v7 v8 v9) (xB (md u) v0 v1 v2 v3 v4 v5 v6 v7 v8 v9) a w) {Q : Exit → Act → World → Prop}
    (hk : ∀ (u' : Bool) (y0 y1 y2 y3 y4 y5 y6 y7 y8 y9 : Int) a' w', Head w0 (r, off, N) n (Int.ofNat (i + 1)) (fB u' y0 y1 y2 y3 y4 y5 y6 y7 y8 y9) (xB (md u') y0 y1 y2 y3 y4 y5 y6 y7 y8 y9) a' w' → Q .normal a' w') : loopB.wp Try.prog Q a w := by
  refine wp_of_flat ?_
  rw [loop_pieces]
  have oF := okf u v0 v1 v2 v3 v4 v5 v6 v7 v8 v9
  have oX := okx (md u) v0 v1 v2 v3 v4 v5 v6 v7 v8 v9
  have ht := test_run n i (md u) v0 v1 v2 v3 v4 v5 v6 v7 v8 v9 u
  rw [less_true hi, cond_true] at ht
  refine head_step test_draws ht oF oX h fun a1 w1 h1 => ?_
  show wpL Try.prog Q (Code.block 1 inner :: next) a1 w1
  refine wpL_block ?_
  rw [inner_pieces]
  obtain ⟨M, h0, hA⟩ := h1
  obtain ⟨k, nn, vv, ww, pc, hel⟩ := hrow.el i hi
  obtain ⟨t, fz, hb⟩ := hrow.block
  have hlen : off + i * 5 + 5 ≤ cs.length := by
    have := congrArg List.length hel
    simp [dB] at this; omega
  have hm1 : ∀ j p, not1 j = true → M[j]? = some p → (M.set 1 (r, off + i * 5, cs.length))[j]? = some p := by
    intro j p hj e
    rw [List.getElem?_set_ne (fun e => (not1_lt hj).2 e.symm)]; exact e
  have hv := hA.view (i := 1) (b := vB k nn vv ww pc i) (by decide) rfl (plains_of u (md u) v0 v1 v2 v3 v4 v5 v6 v7 v8 v9) hrow.lt hb (s := off + i * 5) hlen rfl hel
    (fun p' o e => by
      have e' : (0, i * 5) = (p', o) := by injection e
      cases e'
      exact ⟨by decide, off, N, h0, rfl⟩) (hA.fr.okv (q := not1) rfl hm1)
  have hf := front_run n i k nn vv ww pc (md u) v0 v1 v2 v3 v4 v5 v6 v7 v8 v9 u
  rw [inside_true hi, cond_true] at hf
  obtain ⟨r1, hr1⟩ := NO_some n i k (fB u v0 v1 v2 v3 v4 v5 v6 v7 v8 v9) (xB (md u) v0 v1 v2 v3 v4 v5 v6 v7 v8 v9) (dB k nn vv ww pc) (fB u v0 v1 v2 v3 v4 v5 v6 v7 v8 v9) (wB v0 v1 v2 v3 v4 v5 v6 v7 v8 v9)
  obtain ⟨e, F', H', hl, hOK⟩ := runL_sound noOK (callK_sound noOK 30) front front_draws _ _ leafN (hf.trans hr1)
  refine hOK.at_ hv _ fun M2 a2 w2 hle hA2 => ?_
  obtain ⟨rfl, hm2⟩ := mid_first (m0 := (r, off, N)) hA2 (hle 0 _ (hm1 0 _ rfl h0)) (hl.trans hr1.symm) oF oX (okd _ _ _ _ _) oF (okw _ _ _ _ _ _ _ _ _ _)
  refine wpL_block ?_
  refine ways_ok hm2 fun u' y0 y1 y2 y3 y4 y5 y6 y7 y8 y9 a3 w3 hm3 => ?_
  show wpL Try.prog _ back a3 w3
  have key := same_step (Q := Exit.inBlock 1 (Exit.then (wpL Try.prog Q next) Q)) (rest := []) (okd _ _ _ _ _) oF (okw _ _ _ _ _ _ _ _ _ _) back_draws
    (back_ok u' n i k nn vv ww pc y0 y1 y2 y3 y4 y5 y6 y7 y8 y9 v0 v1 v2 v3 v4 v5 v6 v7 v8 v9 u) hm3 fun u2 z0 z1 z2 z3 z4 z5 z6 z7 z8 z9 a4 w4 hm4 => by
    show wpL Try.prog Q next a4 w4
    obtain ⟨M4, h04, hA4⟩ := hm4
    have hnx := next_run n i k nn vv ww pc (md u2) z0 z1 z2 z3 z4 z5 z6 z7 z8 z9 v0 v1 v2 v3 v4 v5 v6 v7 v8 v9 u2 u
    rw [wrap_succ i (by omega)] at hnx
    obtain ⟨e5, F5, H5, hl5, hOK5⟩ := runL_sound noOK (callK_sound noOK 30) next next_draws _ _ leafH hnx
    have := hOK5.at_ (Q := Q) hA4 [] fun M5 a5 w5 hle5 hA5 => by
      obtain ⟨rfl, hh5⟩ := head_again hA5 (hle5 0 _ h04) (hl5 : leafH e5 F5 H5 = HO .normal n (Int.ofNat (i + 1)) (fB u2 z0 z1 z2 z3 z4 z5 z6 z7 z8 z9) (xB (md u2) z0 z1 z2 z3 z4 z5 z6 z7 z8 z9)) (okf _ _ _ _ _ _ _ _ _ _ _) (okx _ _ _ _ _ _ _ _ _ _ _)
      exact hk u2 z0 z1 z2 z3 z4 z5 z6 z7 z8 z9 a5 w5 hh5
    rw [List.append_nil] at this
    exact this
  rw [List.append_nil] at key
  exact key
theorem ends {w0 : World} {m0 : Pl} {n : Nat} {u : Bool} {v0 v1 v2 v3 v4 v5 v6 v7 v8 v9 : Int} {a : Act} {w : World}
    (h : Head w0 m0 n (Int.ofNat n) (fB u v0 v1 v2 v3 v4 v5 v6 v7 v8 v9) (xB (md u) v0 v1 v2 v3 v4 v5 v6 v7 v8 v9) a w) {Q : Exit → Act → World → Prop}
    (hk : ∀ a' w', Head w0 m0 n (Int.ofNat n) (fB u v0 v1 v2 v3 v4 v5 v6 v7 v8 v9) (xB (md u) v0 v1 v2 v3 v4 v5 v6 v7 v8 v9) a' w' → Q (.exit 0) a' w') : loopB.wp Try.prog Q a w := by
  refine wp_of_flat ?_
  rw [loop_pieces]
  have ht := test_run n n (md u) v0 v1 v2 v3 v4 v5 v6 v7 v8 v9 u
  rw [less_false (Nat.lt_irrefl n), cond_false] at ht
  exact head_step test_draws ht (okf _ _ _ _ _ _ _ _ _ _ _) (okx _ _ _ _ _ _ _ _ _ _ _) h fun a1 w1 h1 => hk a1 w1 h1
theorem all_rounds {w0 : World} {r off n N : Nat} {cs : List Value} (hrow : Row w0 r off n cs) (hn : n ≤ 60) {Q : Exit → Act → World → Prop}
    (hk : ∀ (u : Bool) (v0 v1 v2 v3 v4 v5 v6 v7 v8 v9 : Int) a w, Head w0 (r, off, N) n (Int.ofNat n) (fB u v0 v1 v2 v3 v4 v5 v6 v7 v8 v9) (xB (md u) v0 v1 v2 v3 v4 v5 v6 v7 v8 v9) a w → Q .normal a w) :
    ∀ (m i : Nat) (u : Bool) (v0 v1 v2 v3 v4 v5 v6 v7 v8 v9 : Int) (a : Act) (w : World), i + m = n → Head w0 (r, off, N) n (Int.ofNat i) (fB u v0 v1 v2 v3 v4 v5 v6 v7 v8 v9) (xB (md u) v0 v1 v2 v3 v4 v5 v6 v7 v8 v9) a w → Code.rounds Try.prog loopB (Exit.inBlock 0 Q) (m + 1) a w
  | 0, i, u, v0, v1, v2, v3, v4, v5, v6, v7, v8, v9, a, w, he, h => by
    obtain rfl : i = n := by omega
    rw [rounds_succ]
    refine ends h fun a' w' ht => ?_
    simp only [Exit.then, Exit.inBlock, if_true]
    exact hk u v0 v1 v2 v3 v4 v5 v6 v7 v8 v9 a' w' ht
  | m + 1, i, u, v0, v1, v2, v3, v4, v5, v6, v7, v8, v9, a, w, he, h => by
    rw [rounds_succ]
    refine round hrow hn (by omega) h fun u' y0 y1 y2 y3 y4 y5 y6 y7 y8 y9 a' w' h' => ?_
    exact all_rounds hrow hn hk m (i + 1) u' y0 y1 y2 y3 y4 y5 y6 y7 y8 y9 a' w' (by omega) h'
theorem f12_ntmps : Try.f12.ntmps = 158 := by kernel_rfl
theorem f12_results : Try.f12.results.toList = [.tmp 4] := by kernel_rfl
theorem gt_false {n : Nat} (h : decide (Int.ofNat n > 60) = false) : n ≤ 60 := by
  have h := of_decide_eq_false h
  have : ¬ ((60 : Int) < Int.ofNat n) := h
  have e : Int.ofNat n = (n : Int) := rfl
  rw [e] at this
  omega
theorem selIx : ∀ (i s : Nat), ([0, 1, 5, 8] : List Nat)[i]? = some s → (i = s ∧ i < 2) ∨ (i = 2 ∧ s = 5) ∨ (i = 3 ∧ s = 8) := by
  intro i s e
  match i, e with
  | 0, e => cases e; exact .inl ⟨rfl, by decide⟩
  | 1, e => cases e; exact .inl ⟨rfl, by decide⟩
  | 2, e => cases e; exact .inr (.inl ⟨rfl, rfl⟩)
  | 3, e => cases e; exact .inr (.inr ⟨rfl, rfl⟩)
  | i + 4, e => cases e
theorem csrPlays_some {w : World} {r off n c : Nat} {cs : List Value} (hrow : Row w r off n cs) (hnc : n ≤ c) (hart : Int) :
    Calls Try.prog 12 #[.int .i64 hart, .slice (some ⟨r, off, none⟩) n c] w fun e w' => e = .returned (.bool true) ∧ Below w.heap.size w w' := by
  refine calls_of_wp Try.func12 code_eq (wp_of_flat ?_)
  rw [code_pieces]
  let m0 : Pl := (r, off, off + c * 5)
  have hS : At w.heap.size w 2 158 [m0, m0] (enterF 0 [.int .i64 hart, sl n]) [none, none]
      { tmps := #[.int .i64 hart, .slice (some ⟨r, off, none⟩) n c] ++ Array.replicate (Try.f12.ntmps - 2) undef, defers := [] } w := by
    refine At.start (M := [m0, m0]) (fun i p e => ?_) ?_ ?_ rfl
    · match i, e with
      | 0, e => cases e; exact hrow.lt
      | 1, e => cases e; exact hrow.lt
      | i + 2, e => cases e
    · refine enterF_FR (rargs := [.int .i64 hart, .slice (some ⟨r, off, none⟩) n c]) (.cons (.int _ _) (.cons ?_ .nil)) _
      exact VR.slice (o := 0) (s := off) (N := off + c * 5) rfl hnc (by omega)
    · rw [f12_ntmps]; simp
  have ha := ahead n hart
  cases hg : decide (Int.ofNat n > 60) with
  | true =>
    rw [hg, cond_true] at ha
    obtain ⟨e, F', H', hleaf, hOK⟩ := runL_sound (P := Try.prog) noOK (callK_sound noOK 30) pre pre_draws _ _ leafP ha
    simp only [leafP, Option.some.injEq, Prod.mk.injEq] at hleaf
    obtain ⟨rfl, f4, _⟩ := hleaf
    exact hOK.at_ hS _ fun M' a' w' hle hA' => hA'.ret_true noOK f12_results rfl f4
  | false =>
    rw [hg, cond_false] at ha
    obtain ⟨e, F', H', hleaf, hOK⟩ := runL_sound (P := Try.prog) noOK (callK_sound noOK 30) pre pre_draws _ _ leafP ha
    simp only [leafP, Option.some.injEq, Prod.mk.injEq] at hleaf
    obtain ⟨rfl, f4, f1, f6, f7, f8, g5, g8⟩ := hleaf
    refine hOK.at_ hS _ fun M' a' w' hle hA' => ?_
    have hn := gt_false hg
    have hl : 8 < M'.length := by rw [hA'.rel.len]; exact (List.getElem?_eq_some_iff.1 g8).1
    have hm : ∀ j p, Nat.ble j 1 = true → M'[j]? = some p → (selM M' [0, 1, 5, 8])[j]? = some p := by
      intro j p hj e
      have hj : j < 2 := Nat.lt_succ_of_le (Nat.le_of_ble_eq_true hj)
      rw [selM_get (s := j) (by match j, hj with | 0, _ => rfl | 1, _ => rfl) (by omega)]; exact e
    have hF : FR (selM M' [0, 1, 5, 8]) (headF n (Int.ofNat 0)) a'.tmps := by
      refine FR.list fun e he => ?_
      simp only [headF, List.mem_cons, List.not_mem_nil, or_false] at he
      rcases he with rfl | rfl | rfl | rfl
      · exact pick (q := fun j => Nat.ble j 1) hA'.fr f1 rfl hm
      · obtain ⟨u, h1, h2⟩ := hA'.fr 6 _ f6
        refine ⟨u, h1, ?_⟩
        cases h2 with
        | ptr e => exact .ptr (by rw [selM_get (s := 5) rfl (by omega)]; exact e)
      · obtain ⟨u, h1, h2⟩ := hA'.fr 7 _ f7
        refine ⟨u, h1, ?_⟩
        cases h2 with
        | ptr e => exact .ptr (by rw [selM_get (s := 8) rfl hl]; exact e)
      · exact pick (q := fun j => Nat.ble j 1) hA'.fr f8 rfl hm
    have hH : Head w m0 n (Int.ofNat 0) (fB false 0 0 0 0 0 0 0 0 0 (IntKind.u32.wrap hart)) (xB (md false) 0 0 0 0 0 0 0 0 0 (IntKind.u32.wrap hart)) a' w' := by
      refine ⟨selM M' [0, 1, 5, 8], hm 0 _ rfl (hle 0 _ rfl), hA'.selB [0, 1, 5, 8] rfl (fun s hs => ?_) (fun i s e => ?_) (fun i j s e1 e2 => ?_) (fun i b e => ?_) hF⟩
      · have : ∀ s ∈ ([0, 1, 5, 8] : List Nat), s < 9 := by decide
        have := this s hs
        omega
      · rcases selIx i s e with ⟨h, _⟩ | ⟨h, h'⟩ | ⟨h, h'⟩ <;> omega
      · rcases selIx i s e1 with ⟨h, _⟩ | ⟨h, h'⟩ | ⟨h, h'⟩ <;> rcases selIx j s e2 with ⟨k, _⟩ | ⟨k, k'⟩ | ⟨k, k'⟩ <;> omega
      · match i, e with
        | 0, e => cases e
        | 1, e => cases e
        | 2, e => cases e; exact ⟨5, rfl, g5, rfl, rfl⟩
        | 3, e => cases e; exact ⟨8, rfl, g8, rfl, rfl⟩
        | j + 4, e => cases e
    show wpL Try.prog _ (Code.block 0 (Code.loop loopB) :: post) a' w'
    refine wp_block (wp_loop_rounds (n + 1) (all_rounds hrow hn (fun u v0 v1 v2 v3 v4 v5 v6 v7 v8 v9 a2 w2 ht => ?_) n 0 false 0 0 0 0 0 0 0 0 0 _ a' w' (by omega) hH))
    obtain ⟨M2, _, hA2⟩ := ht
    obtain ⟨e, F2, H2, hleaf2, hOK2⟩ := runL_sound (P := Try.prog) noOK (callK_sound noOK 30) post post_draws _ _ (fun e F H => some (e, F.get 4)) (post_run n (Int.ofNat n) (md u) v0 v1 v2 v3 v4 v5 v6 v7 v8 v9 u)
    simp only [Option.some.injEq, Prod.mk.injEq] at hleaf2
    obtain ⟨rfl, f4'⟩ := hleaf2
    have := hOK2.at_ (Q := bodyPost Try.prog Try.f12 fun e w' => e = .returned (.bool true) ∧ Below w.heap.size w w') hA2 [] fun M3 a3 w3 hle3 hA3 => hA3.ret_true noOK f12_results rfl f4'
    rw [List.append_nil] at this
    exact this
theorem csrPlays_nil (hart : Int) (w : World) :
    Calls Try.prog 12 #[.int .i64 hart, .slice none 0 0] w fun e w' => e = .returned (.bool true) ∧ Below w.heap.size w w' :=
  calls_of_run noOK (args := [.int .i64 hart, .slice none 0 0]) rfl rfl (nils hart) w
end Go.Proofs.Ytcaohimipkoapaa.Ab.CP
