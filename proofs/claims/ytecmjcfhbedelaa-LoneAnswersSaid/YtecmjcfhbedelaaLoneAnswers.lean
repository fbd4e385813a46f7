/- LoneAnswers: what the law's runs come to, for every slice. -/
import Derived.Test.YtecmjcfhbedelaaLoneAnswersRuns
namespace Go.Proofs.Ytecmjcfhbedelaa.Ab
open Go Go.RowKit
set_option linter.unusedVariables false
set_option linter.unusedSimpArgs false
theorem less_true {i n : Nat} (h : i < n) : less i n = true := by
  unfold less; exact decide_eq_true (Int.ofNat_lt.2 h)
theorem less_false {i n : Nat} (h : ¬ i < n) : less i n = false := by
  unfold less; exact decide_eq_false fun k => h (Int.ofNat_lt.1 k)
theorem inside_true {i n : Nat} (h : i < n) : inside i n = true := by
  unfold inside
  rw [less_true h]
  have : (Int.ofNat i).toNat = i := rfl
  rw [this, Nat.zero_add, Nat.beq_refl]; rfl
theorem step {i n : Nat} (h : i < n) (st : St) (k kind x0 x1 x2 x3 : Int) (wr : Bool) :
    ∃ st' : St, runK (ctx noΦ) (callK (ctx noΦ) 30) 30 2 202 3 (keeps 3) loopB (headF (sl n) kind (Int.ofNat i) st.dirty st.kept) [none, some (vB k wr i), some (dB x0 x1 x2 x3), some (st.line x0 x1 x2 x3)] leaf =
      O .normal (sl n) kind (IntKind.i64.wrap (Int.ofNat i + 1)) st'.dirty st'.kept x0 x1 x2 x3 (st'.line x0 x1 x2 x3) := by
  have e1 := less_true h
  have e2 := inside_true h
  cases st
  · rw [show St.dirty .a0 = false from rfl, show St.kept .a0 = false from rfl, step_a0]
    simp only [e1, e2, cond_true, beq_self_eq_true]
    cases wr <;> cases (k == 1) <;> cases (k == 2) <;> first | exact ⟨.a0, rfl⟩ | exact ⟨.a1, rfl⟩ | exact ⟨.a2, rfl⟩ | exact ⟨.a3, rfl⟩ | exact ⟨.a4, rfl⟩ | exact ⟨.a5, rfl⟩ | exact ⟨.a6, rfl⟩
  · rw [show St.dirty .a1 = false from rfl, show St.kept .a1 = false from rfl, step_a1]
    simp only [e1, e2, cond_true, beq_self_eq_true]
    cases wr <;> cases (k == 1) <;> cases (k == 2) <;> first | exact ⟨.a0, rfl⟩ | exact ⟨.a1, rfl⟩ | exact ⟨.a2, rfl⟩ | exact ⟨.a3, rfl⟩ | exact ⟨.a4, rfl⟩ | exact ⟨.a5, rfl⟩ | exact ⟨.a6, rfl⟩
  · rw [show St.dirty .a2 = false from rfl, show St.kept .a2 = false from rfl, step_a2]
    simp only [e1, e2, cond_true, beq_self_eq_true]
    cases wr <;> cases (k == 1) <;> cases (k == 2) <;> first | exact ⟨.a0, rfl⟩ | exact ⟨.a1, rfl⟩ | exact ⟨.a2, rfl⟩ | exact ⟨.a3, rfl⟩ | exact ⟨.a4, rfl⟩ | exact ⟨.a5, rfl⟩ | exact ⟨.a6, rfl⟩
  · rw [show St.dirty .a3 = false from rfl, show St.kept .a3 = false from rfl, step_a3]
    simp only [e1, e2, cond_true, beq_self_eq_true]
    cases wr <;> cases (k == 1) <;> cases (k == 2) <;> first | exact ⟨.a0, rfl⟩ | exact ⟨.a1, rfl⟩ | exact ⟨.a2, rfl⟩ | exact ⟨.a3, rfl⟩ | exact ⟨.a4, rfl⟩ | exact ⟨.a5, rfl⟩ | exact ⟨.a6, rfl⟩
  · rw [show St.dirty .a4 = false from rfl, show St.kept .a4 = false from rfl, step_a4]
    simp only [e1, e2, cond_true, beq_self_eq_true]
    cases wr <;> cases (k == 1) <;> cases (k == 2) <;> first | exact ⟨.a0, rfl⟩ | exact ⟨.a1, rfl⟩ | exact ⟨.a2, rfl⟩ | exact ⟨.a3, rfl⟩ | exact ⟨.a4, rfl⟩ | exact ⟨.a5, rfl⟩ | exact ⟨.a6, rfl⟩
  · rw [show St.dirty .a5 = true from rfl, show St.kept .a5 = false from rfl, step_a5]
    simp only [e1, e2, cond_true, beq_self_eq_true]
    cases wr <;> cases (k == 1) <;> cases (k == 2) <;> first | exact ⟨.a0, rfl⟩ | exact ⟨.a1, rfl⟩ | exact ⟨.a2, rfl⟩ | exact ⟨.a3, rfl⟩ | exact ⟨.a4, rfl⟩ | exact ⟨.a5, rfl⟩ | exact ⟨.a6, rfl⟩
  · rw [show St.dirty .a6 = false from rfl, show St.kept .a6 = true from rfl, step_a6]
    simp only [e1, e2, cond_true, beq_self_eq_true]
    cases wr <;> cases (k == 1) <;> cases (k == 2) <;> first | exact ⟨.a0, rfl⟩ | exact ⟨.a1, rfl⟩ | exact ⟨.a2, rfl⟩ | exact ⟨.a3, rfl⟩ | exact ⟨.a4, rfl⟩ | exact ⟨.a5, rfl⟩ | exact ⟨.a6, rfl⟩
theorem line_eq (st : St) (x0 x1 x2 x3 : Int) : ∃ s y0 y1 y2 y3 wt kp, st.line x0 x1 x2 x3 = lB s y0 y1 y2 y3 wt kp := by
  cases st <;> exact ⟨_, _, _, _, _, _, _, rfl⟩
theorem stops (n : Nat) (st : St) (kind x0 x1 x2 x3 : Int) :
    runK (ctx noΦ) (callK (ctx noΦ) 30) 30 2 202 3 (keeps 3) loopB (headF (sl n) kind (Int.ofNat n) st.dirty st.kept) [none, none, some (dB x0 x1 x2 x3), some (st.line x0 x1 x2 x3)] leaf =
      O (.exit 0) (sl n) kind (Int.ofNat n) st.dirty st.kept x0 x1 x2 x3 (st.line x0 x1 x2 x3) := by
  obtain ⟨s, y0, y1, y2, y3, wt, kp, e⟩ := line_eq st x0 x1 x2 x3
  rw [e, stop, less_false (Nat.lt_irrefl n)]; rfl
theorem rests (kind : Int) : kind.tmod 3 = 0 ∨ kind.tmod 3 = 1 ∨ kind.tmod 3 = 2 ∨ kind.tmod 3 = -1 ∨ kind.tmod 3 = -2 := by
  have h1 : kind.tmod 3 < 3 := Int.tmod_lt_of_pos _ (by decide)
  have h2 : -3 < kind.tmod 3 := Int.lt_tmod_of_pos _ (by decide)
  omega
theorem behind (st : St) (kind x0 x1 x2 x3 : Int) :
    runL (ctx noΦ) (callK (ctx noΦ) 30) 30 2 202 3 (keeps 3) laRest (tailF kind st.dirty st.kept) [none, none, some (dB x0 x1 x2 x3), some (st.line x0 x1 x2 x3)] (fun e F H => some (e, F.get 6)) = some (.ret, some (.bool true)) := by
  cases st
  · rw [show St.dirty .a0 = false from rfl, show St.kept .a0 = false from rfl, rest_a0]
    rcases rests kind with h | h | h | h | h <;> simp [h]
  · rw [show St.dirty .a1 = false from rfl, show St.kept .a1 = false from rfl, rest_a1]
    rcases rests kind with h | h | h | h | h <;> simp [h]
  · rw [show St.dirty .a2 = false from rfl, show St.kept .a2 = false from rfl, rest_a2]
    rcases rests kind with h | h | h | h | h <;> simp [h]
  · rw [show St.dirty .a3 = false from rfl, show St.kept .a3 = false from rfl, rest_a3]
    rcases rests kind with h | h | h | h | h <;> simp [h]
  · rw [show St.dirty .a4 = false from rfl, show St.kept .a4 = false from rfl, rest_a4]
    rcases rests kind with h | h | h | h | h <;> simp [h]
  · rw [show St.dirty .a5 = true from rfl, show St.kept .a5 = false from rfl, rest_a5]
    rcases rests kind with h | h | h | h | h <;> simp [h]
  · rw [show St.dirty .a6 = false from rfl, show St.kept .a6 = true from rfl, rest_a6]
    rcases rests kind with h | h | h | h | h <;> simp [h]
theorem nils_true (kind x0 x1 x2 x3 : Int) : callK (ctx noΦ) 30 0 3 [.slice none 0 0, .int .i64 kind, .agg #[.int .u32 x0, .int .u32 x1, .int .u32 x2, .int .u32 x3]] [] (fun v _ => some v) = some (.bool true) := by
  rw [nils]
  rcases rests kind with h | h | h | h | h <;> simp [h]
theorem wrap_succ : ∀ i, i < 20 → IntKind.i64.wrap (Int.ofNat i + 1) = Int.ofNat (i + 1) := by decide
/-! ### The loop -/
/-- The row that is handed in: n elements that begin with an int and a bool. -/
structure Row (w0 : World) (r off n : Nat) (cs : List Value) : Prop where
  block : ∃ t fz, w0.heap[r]? = some (.cells cs.toArray t fz)
  el : ∀ i, i < n → ∃ k wr, (cs.drop (off + i * 17)).take 2 = [.int .i64 k, .bool wr]
theorem Row.lt {w0 : World} {r off n : Nat} {cs : List Value} (h : Row w0 r off n cs) : r < w0.heap.size := by
  obtain ⟨t, fz, h⟩ := h.block
  exact (Array.getElem?_eq_some_iff.1 h).1
/-- A round begins. -/
def Head (w0 : World) (m0 : Pl) (n : Nat) (kind x0 x1 x2 x3 : Int) (i : Nat) (st : St) (a : Act) (w : World) : Prop :=
  ∃ M : Mp, M[0]? = some m0 ∧ At w0.heap.size w0 2 202 M (headF (sl n) kind (Int.ofNat i) st.dirty st.kept) [none, none, some (dB x0 x1 x2 x3), some (st.line x0 x1 x2 x3)] a w
/-- The loop has ended. -/
def Tail (w0 : World) (kind x0 x1 x2 x3 : Int) (st : St) (a : Act) (w : World) : Prop :=
  ∃ M : Mp, At w0.heap.size w0 2 202 M (tailF kind st.dirty st.kept) [none, none, some (dB x0 x1 x2 x3), some (st.line x0 x1 x2 x3)] a w
theorem plains_of (st : St) (x0 x1 x2 x3 : Int) : ∀ (j : Nat) (x : Blk), ([none, none, some (dB x0 x1 x2 x3), some (st.line x0 x1 x2 x3)] : Heap)[j]? = some (some x) → x.view = none ∧ x.cells.all plain = true := by
  intro j x e
  obtain ⟨s, y0, y1, y2, y3, wt, kp, hl⟩ := line_eq st x0 x1 x2 x3
  match j, e with
  | 0, e => cases e
  | 1, e => cases e
  | 2, e => cases e; exact ⟨rfl, rfl⟩
  | 3, e =>
    have e' : st.line x0 x1 x2 x3 = x := by injection e with e; injection e
    rw [hl] at e'; subst e'; exact ⟨rfl, rfl⟩
  | j + 4, e => cases e
theorem pick {M M' : Mp} {F : Fr} {tmps : Array Value} (h : FR M F tmps) {q : Nat → Bool} {t : Nat} {v : Value} (hv : F.get t = some v) (hq : okv q v = true) (hm : ∀ j p, q j = true → M[j]? = some p → M'[j]? = some p) : ∃ u, tmps[t]? = some u ∧ VR M' v u :=
  let ⟨u, h1, h2⟩ := h t v hv
  ⟨u, h1, h2.okv hq hm⟩
theorem four {M : Mp} (hM : 3 < M.length) (j : Nat) (hj : j < 4) (p : Pl) (h : M[j]? = some p) : (selM M [0, 1, 2, 3])[j]? = some p := by
  match j, hj with
  | 0, _ => rw [selM_get (s := 0) rfl (by omega)]; exact h
  | 1, _ => rw [selM_get (s := 1) rfl (by omega)]; exact h
  | 2, _ => rw [selM_get (s := 2) rfl (by omega)]; exact h
  | 3, _ => rw [selM_get (s := 3) rfl (by omega)]; exact h
theorem fourIx : ∀ (i s : Nat), ([0, 1, 2, 3] : List Nat)[i]? = some s → i = s := by
  intro i s e
  match i, e with
  | 0, e => cases e; rfl
  | 1, e => cases e; rfl
  | 2, e => cases e; rfl
  | 3, e => cases e; rfl
  | i + 4, e => cases e
/-- Behind a round, or the loop: told anew. -/
theorem again {w0 : World} {M' : Mp} {F' F'' : Fr} {H' : Heap} {a' : Act} {w' : World} {st : St} {x0 x1 x2 x3 : Int} (hA : At w0.heap.size w0 2 202 M' F' H' a' w')
    (g2 : H'[2]? = some (some (dB x0 x1 x2 x3))) (g3 : H'[3]? = some (some (st.line x0 x1 x2 x3))) (hF : FR (selM M' [0, 1, 2, 3]) F'' a'.tmps) :
    At w0.heap.size w0 2 202 (selM M' [0, 1, 2, 3]) F'' [none, none, some (dB x0 x1 x2 x3), some (st.line x0 x1 x2 x3)] a' w' := by
  have hl : 3 < M'.length := by rw [hA.rel.len]; exact (List.getElem?_eq_some_iff.1 g3).1
  refine hA.sel [0, 1, 2, 3] rfl (fun s hs => ?_) (fun i s e => ?_) (fun i j s e1 e2 => ?_) (fun i b e => ?_) hF
  · have : ∀ s ∈ ([0, 1, 2, 3] : List Nat), s < 4 := by decide
    have := this s hs
    omega
  · rw [fourIx i s e]; exact id
  · rw [fourIx i s e1, fourIx j s e2]
  · have hp := plains_of st x0 x1 x2 x3 i b e
    match i, e with
    | 0, e => cases e
    | 1, e => cases e
    | 2, e => cases e; exact ⟨2, rfl, g2, hp.1, hp.2, id⟩
    | 3, e => cases e; exact ⟨3, rfl, g3, hp.1, hp.2, id⟩
    | j + 4, e => cases e
def not1 (j : Nat) : Bool := Nat.beq j 0 || Nat.beq j 2 || Nat.beq j 3
theorem not1_lt {j : Nat} (h : not1 j = true) : j < 4 ∧ j ≠ 1 := by
  simp only [not1, Bool.or_eq_true, Nat.beq_eq] at h
  omega
theorem round {w0 : World} {r off n N : Nat} {cs : List Value} (hrow : Row w0 r off n cs) (hn : n ≤ 20) {kind x0 x1 x2 x3 : Int} {i : Nat} (hi : i < n) {st : St} {a : Act} {w : World}
    (h : Head w0 (r, off, N) n kind x0 x1 x2 x3 i st a w) {Q : Exit → Act → World → Prop} (hk : ∀ st' a' w', Head w0 (r, off, N) n kind x0 x1 x2 x3 (i + 1) st' a' w' → Q .normal a' w') : loopB.wp Try.prog Q a w := by
  obtain ⟨M, h0, hA⟩ := h
  obtain ⟨k, wr, hel⟩ := hrow.el i hi
  obtain ⟨t, fz, hb⟩ := hrow.block
  have hlen : off + i * 17 + 2 ≤ cs.length := by
    have := congrArg List.length hel
    simp at this; omega
  have hlM : M.length = 4 := hA.rel.len
  have hm1 : ∀ j p, not1 j = true → M[j]? = some p → (M.set 1 (r, off + i * 17, cs.length))[j]? = some p := by
    intro j p hj e
    rw [List.getElem?_set_ne (fun e => (not1_lt hj).2 e.symm)]; exact e
  have hv := hA.view (i := 1) (b := vB k wr i) (by decide) rfl (plains_of st x0 x1 x2 x3) hrow.lt hb (s := off + i * 17) hlen rfl hel
    (fun p' o e => by
      have e' : (0, i * 17) = (p', o) := by injection e
      cases e'
      exact ⟨by decide, off, N, h0, rfl⟩) (hA.fr.okv (q := not1) rfl hm1)
  obtain ⟨st', hs⟩ := step hi st k kind x0 x1 x2 x3 wr
  obtain ⟨e, F', H', hleaf, hOK⟩ := runK_sound noOK (callK_sound noOK 30) loopB loopB_draws _ _ leaf hs
  simp only [leaf, O, Option.some.injEq, Prod.mk.injEq] at hleaf
  obtain ⟨rfl, f0, f1, f5, f8, f9, f10, f11, g2, g3⟩ := hleaf
  rw [wrap_succ i (by omega)] at f11
  refine hOK.at_ hv fun M' a' w' hle hA' => hk st' a' w' ⟨selM M' [0, 1, 2, 3], ?_, again hA' g2 g3 ?_⟩
  · have hl : 3 < M'.length := by rw [hA'.rel.len]; exact (List.getElem?_eq_some_iff.1 g3).1
    exact four hl 0 (by decide) _ (hle 0 _ (hm1 0 _ rfl h0))
  · have hl : 3 < M'.length := by rw [hA'.rel.len]; exact (List.getElem?_eq_some_iff.1 g3).1
    have hm : ∀ j p, not1 j = true → M'[j]? = some p → (selM M' [0, 1, 2, 3])[j]? = some p := fun j p hj e => four hl j (not1_lt hj).1 p e
    refine FR.list fun e he => ?_
    simp only [headF, List.mem_cons, List.not_mem_nil, or_false] at he
    rcases he with rfl | rfl | rfl | rfl | rfl | rfl | rfl
    · exact pick hA'.fr f0 rfl hm
    · exact pick hA'.fr f1 rfl hm
    · exact pick hA'.fr f5 rfl hm
    · exact pick hA'.fr f8 rfl hm
    · exact pick hA'.fr f9 rfl hm
    · exact pick hA'.fr f10 rfl hm
    · exact pick hA'.fr f11 rfl hm
theorem ends {w0 : World} {m0 : Pl} {n : Nat} {kind x0 x1 x2 x3 : Int} {st : St} {a : Act} {w : World}
    (h : Head w0 m0 n kind x0 x1 x2 x3 n st a w) {Q : Exit → Act → World → Prop} (hk : ∀ a' w', Tail w0 kind x0 x1 x2 x3 st a' w' → Q (.exit 0) a' w') : loopB.wp Try.prog Q a w := by
  obtain ⟨M, h0, hA⟩ := h
  obtain ⟨e, F', H', hleaf, hOK⟩ := runK_sound noOK (callK_sound noOK 30) loopB loopB_draws _ _ leaf (stops n st kind x0 x1 x2 x3)
  simp only [leaf, O, Option.some.injEq, Prod.mk.injEq] at hleaf
  obtain ⟨rfl, f0, f1, f5, f8, f9, f10, f11, g2, g3⟩ := hleaf
  refine hOK.at_ hA fun M' a' w' hle hA' => hk a' w' ⟨selM M' [0, 1, 2, 3], again hA' g2 g3 ?_⟩
  have hl : 3 < M'.length := by rw [hA'.rel.len]; exact (List.getElem?_eq_some_iff.1 g3).1
  have hm : ∀ j p, not1 j = true → M'[j]? = some p → (selM M' [0, 1, 2, 3])[j]? = some p := fun j p hj e => four hl j (not1_lt hj).1 p e
  refine FR.list fun e he => ?_
  simp only [tailF, List.mem_cons, List.not_mem_nil, or_false] at he
  rcases he with rfl | rfl | rfl | rfl | rfl
  · exact pick hA'.fr f1 rfl hm
  · exact pick hA'.fr f5 rfl hm
  · exact pick hA'.fr f8 rfl hm
  · exact pick hA'.fr f9 rfl hm
  · exact pick hA'.fr f10 rfl hm
theorem all_rounds {w0 : World} {r off n N : Nat} {cs : List Value} (hrow : Row w0 r off n cs) (hn : n ≤ 20) {kind x0 x1 x2 x3 : Int} {Q : Exit → Act → World → Prop} (hk : ∀ st a w, Tail w0 kind x0 x1 x2 x3 st a w → Q .normal a w) :
    ∀ (m i : Nat) (st : St) (a : Act) (w : World), i + m = n → Head w0 (r, off, N) n kind x0 x1 x2 x3 i st a w → Code.rounds Try.prog loopB (Exit.inBlock 0 Q) (m + 1) a w
  | 0, i, st, a, w, he, h => by
    obtain rfl : i = n := by omega
    rw [rounds_succ]
    refine ends h fun a' w' ht => ?_
    simp only [Exit.then, Exit.inBlock, if_true]
    exact hk st a' w' ht
  | m + 1, i, st, a, w, he, h => by
    rw [rounds_succ]
    refine round hrow hn (by omega) h fun st' a' w' h' => ?_
    exact all_rounds hrow hn hk m (i + 1) st' a' w' (by omega) h'
theorem f3_ntmps : Try.f3.ntmps = 202 := by kernel_rfl
theorem f3_results : Try.f3.results.toList = [.tmp 6] := by kernel_rfl
theorem ret_post {B : Nat} {w0 : World} {lo n : Nat} {M : Mp} {F : Fr} {H : Heap} {a : Act} {w : World} (h : At B w0 lo n M F H a w) (hB : B = w0.heap.size) (h6 : F.get 6 = some (.bool true)) :
    bodyPost Try.prog Try.f3 (fun e w' => e = .returned (.bool true) ∧ Below w0.heap.size w0 w') .ret a w := by
  have hr : resA (ctx noΦ).T F H Try.f3.results.toList = some [.bool true] := by
    rw [f3_results]; simp only [resA, h6]
  obtain ⟨rv, h1, h2⟩ := results_sound noOK h.rel h.fr hr
  have : rv = .bool true := plain_eq rfl h1
  subst this
  exact ⟨h.defers, _, h2, rfl, hB ▸ h.below⟩
theorem gt_false {n : Nat} (h : decide (Int.ofNat n > 20) = false) : n ≤ 20 := by
  have h := of_decide_eq_false h
  have : ¬ ((20 : Int) < Int.ofNat n) := h
  have e : Int.ofNat n = (n : Int) := rfl
  rw [e] at this
  omega
theorem ten : ∀ (i s : Nat), ([0, 1, 2, 21] : List Nat)[i]? = some s → (i = s ∧ i < 3) ∨ (i = 3 ∧ s = 21) := by
  intro i s e
  match i, e with
  | 0, e => cases e; exact .inl ⟨rfl, by decide⟩
  | 1, e => cases e; exact .inl ⟨rfl, by decide⟩
  | 2, e => cases e; exact .inl ⟨rfl, by decide⟩
  | 3, e => cases e; exact .inr ⟨rfl, rfl⟩
  | i + 4, e => cases e
theorem loneAnswers_some {w : World} {r off n c : Nat} {cs : List Value} (hrow : Row w r off n cs) (hnc : n ≤ c) (kind x0 x1 x2 x3 : Int) :
    Calls Try.prog 3 #[.slice (some ⟨r, off, none⟩) n c, .int .i64 kind, .agg #[.int .u32 x0, .int .u32 x1, .int .u32 x2, .int .u32 x3]] w fun e w' => e = .returned (.bool true) ∧ Below w.heap.size w w' := by
  refine calls_of_wp Try.func3 laCode_eq (wp_of_flat ?_)
  rw [laBody_eq]
  let m0 : Pl := (r, off, off + c * 17)
  have hS : At w.heap.size w 2 202 [m0, m0] (enterF 0 [sl n, .int .i64 kind, .agg #[.int .u32 x0, .int .u32 x1, .int .u32 x2, .int .u32 x3]]) [none, none]
      { tmps := #[.slice (some ⟨r, off, none⟩) n c, .int .i64 kind, .agg #[.int .u32 x0, .int .u32 x1, .int .u32 x2, .int .u32 x3]] ++ Array.replicate (Try.f3.ntmps - 3) undef, defers := [] } w := by
    refine At.start (M := [m0, m0]) (fun i p e => ?_) ?_ ?_ rfl
    · match i, e with
      | 0, e => cases e; exact hrow.lt
      | 1, e => cases e; exact hrow.lt
      | i + 2, e => cases e
    · refine enterF_FR (rargs := [.slice (some ⟨r, off, none⟩) n c, .int .i64 kind, .agg #[.int .u32 x0, .int .u32 x1, .int .u32 x2, .int .u32 x3]]) (.cons ?_ (.cons (.int _ _) (.cons (plain_VR rfl) .nil))) _
      exact VR.slice (o := 0) (s := off) (N := off + c * 17) rfl hnc (by omega)
    · rw [f3_ntmps]; simp
  have ha := ahead n kind x0 x1 x2 x3
  cases hg : decide (Int.ofNat n > 20) with
  | true =>
    rw [hg, cond_true] at ha
    obtain ⟨e, F', H', hleaf, hOK⟩ := runL_sound (P := Try.prog) noOK (callK_sound noOK 30) laPre laPre_draws _ _ leafP ha
    simp only [leafP, Option.some.injEq, Prod.mk.injEq] at hleaf
    obtain ⟨rfl, f6, _⟩ := hleaf
    exact hOK.at_ hS _ fun M' a' w' hle hA' => ret_post hA' rfl f6
  | false =>
    rw [hg, cond_false] at ha
    obtain ⟨e, F', H', hleaf, hOK⟩ := runL_sound (P := Try.prog) noOK (callK_sound noOK 30) laPre laPre_draws _ _ leafP ha
    simp only [leafP, Option.some.injEq, Prod.mk.injEq] at hleaf
    obtain ⟨rfl, f6, f0, f1, f5, f8, f9, f10, f11, g2, g21⟩ := hleaf
    refine hOK.at_ hS _ fun M' a' w' hle hA' => ?_
    have hn := gt_false hg
    have hl : 21 < M'.length := by rw [hA'.rel.len]; exact (List.getElem?_eq_some_iff.1 g21).1
    have hm : ∀ j p, Nat.blt j 3 = true → M'[j]? = some p → (selM M' [0, 1, 2, 21])[j]? = some p := by
      intro j p hj e
      have hj : j < 3 := Nat.lt_of_succ_le (Nat.le_of_ble_eq_true hj)
      rw [selM_get (s := j) (by match j, hj with | 0, _ => rfl | 1, _ => rfl | 2, _ => rfl) (by omega)]; exact e
    have hF : FR (selM M' [0, 1, 2, 21]) (headF (sl n) kind (Int.ofNat 0) false false) a'.tmps := by
      refine FR.list fun e he => ?_
      simp only [headF, List.mem_cons, List.not_mem_nil, or_false] at he
      rcases he with rfl | rfl | rfl | rfl | rfl | rfl | rfl
      · exact pick (q := fun j => Nat.blt j 3) hA'.fr f0 rfl hm
      · exact pick (q := fun j => Nat.blt j 3) hA'.fr f1 rfl hm
      · exact pick (q := fun j => Nat.blt j 3) hA'.fr f5 rfl hm
      · obtain ⟨u, h1, h2⟩ := hA'.fr 8 _ f8
        refine ⟨u, h1, ?_⟩
        cases h2 with
        | ptr e => exact .ptr (by rw [selM_get (s := 21) rfl hl]; exact e)
      · exact pick (q := fun j => Nat.blt j 3) hA'.fr f9 rfl hm
      · exact pick (q := fun j => Nat.blt j 3) hA'.fr f10 rfl hm
      · exact pick (q := fun j => Nat.blt j 3) hA'.fr f11 rfl hm
    have hH : Head w m0 n kind x0 x1 x2 x3 0 .a0 a' w' := by
      refine ⟨selM M' [0, 1, 2, 21], hm 0 _ rfl (hle 0 _ rfl), hA'.sel [0, 1, 2, 21] rfl (fun s hs => ?_) (fun i s e => ?_) (fun i j s e1 e2 => ?_) (fun i b e => ?_) hF⟩
      · have : ∀ s ∈ ([0, 1, 2, 21] : List Nat), s < 22 := by decide
        have := this s hs
        omega
      · rcases ten i s e with ⟨h, _⟩ | ⟨h, h'⟩ <;> omega
      · rcases ten i s e1 with ⟨h, _⟩ | ⟨h, h'⟩ <;> rcases ten j s e2 with ⟨k, _⟩ | ⟨k, k'⟩ <;> omega
      · have hp := plains_of .a0 x0 x1 x2 x3 i b e
        match i, e with
        | 0, e => cases e
        | 1, e => cases e
        | 2, e => cases e; exact ⟨2, rfl, g2, hp.1, hp.2, id⟩
        | 3, e => cases e; exact ⟨21, rfl, g21, hp.1, hp.2, fun _ => by decide⟩
        | j + 4, e => cases e
    show wpL Try.prog _ (Code.block 0 (Code.loop loopB) :: laRest) a' w'
    refine wp_block (wp_loop_rounds (n + 1) (all_rounds hrow hn (fun st a2 w2 ht => ?_) n 0 .a0 a' w' (by omega) hH))
    obtain ⟨M2, hA2⟩ := ht
    obtain ⟨e, F2, H2, hleaf2, hOK2⟩ := runL_sound (P := Try.prog) noOK (callK_sound noOK 30) laRest laRest_draws _ _ (fun e F H => some (e, F.get 6)) (behind st kind x0 x1 x2 x3)
    simp only [Option.some.injEq, Prod.mk.injEq] at hleaf2
    obtain ⟨rfl, f6'⟩ := hleaf2
    have := hOK2.at_ (Q := bodyPost Try.prog Try.f3 fun e w' => e = .returned (.bool true) ∧ Below w.heap.size w w') hA2 [] fun M3 a3 w3 hle3 hA3 => ret_post hA3 rfl f6'
    rw [List.append_nil] at this
    exact this
theorem loneAnswers_nil (kind x0 x1 x2 x3 : Int) (w : World) :
    Calls Try.prog 3 #[.slice none 0 0, .int .i64 kind, .agg #[.int .u32 x0, .int .u32 x1, .int .u32 x2, .int .u32 x3]] w fun e w' => e = .returned (.bool true) ∧ Below w.heap.size w w' :=
  calls_of_run noOK (args := [.slice none 0 0, .int .i64 kind, .agg #[.int .u32 x0, .int .u32 x1, .int .u32 x2, .int .u32 x3]]) rfl rfl (nils_true kind x0 x1 x2 x3) w
end Go.Proofs.Ytecmjcfhbedelaa.Ab
