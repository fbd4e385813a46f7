/- The abstract run, sixteenth part: what is told is told anew: less of it, under other numbers, or with a view of a row. -/
import Derived.Test.YtcaohimipkoapaaAb15
namespace Go.Proofs.Ytcaohimipkoapaa.Ab
open Go Go.RowKit
set_option linter.unusedVariables false
set_option linter.unusedSimpArgs false
/-- A frame, slot by slot. -/
theorem FR.list {M : Mp} {F : Fr} {tmps : Array Value} (h : ∀ e ∈ F, ∃ u, tmps[e.1]? = some u ∧ VR M e.2 u) : FR M F tmps := by
  induction F with
  | nil => intro t v e; cases e
  | cons x r ih =>
    obtain ⟨k, y⟩ := x
    intro t v e
    simp only [Fr.get] at e
    cases hk : (k == t) with
    | true =>
      rw [hk] at e; cases e
      have : k = t := by simpa using hk
      subst this
      exact h (k, y) (List.mem_cons_self ..)
    | false =>
      rw [hk] at e
      exact ih (fun e' he => h e' (List.mem_cons_of_mem _ he)) t v e
theorem Fr.mem {F : Fr} {t : Nat} {v : Value} (h : Fr.get F t = some v) : (t, v) ∈ F := by
  induction F with
  | nil => cases h
  | cons x r ih =>
    obtain ⟨k, y⟩ := x
    simp only [Fr.get] at h
    cases hk : (k == t) with
    | true =>
      rw [hk] at h; cases h
      have : k = t := by simpa using hk
      subst this
      exact List.mem_cons_self ..
    | false => rw [hk] at h; exact List.mem_cons_of_mem _ (ih h)
/-- Values that name only blocks of which q holds. -/
def okv (q : Nat → Bool) : Value → Bool
  | .pointer (some ⟨b, _, none⟩) => q b
  | .slice (some ⟨b, _, none⟩) _ (_ + 1) => q b
  | v => plain v
theorem VR.okv {M M' : Mp} {q : Nat → Bool} {v u : Value} (h : VR M v u) (hq : Ab.okv q v = true) (hm : ∀ j p, q j = true → M[j]? = some p → M'[j]? = some p) : VR M' v u := by
  unfold Ab.okv at hq
  split at hq
  · cases h with | ptr e => exact .ptr (hm _ _ hq e)
  · cases h with | slice e a b => exact .slice (hm _ _ hq e) a b
  · rw [plain_eq hq h]; exact plain_VR hq
theorem FR.okv {M M' : Mp} {q : Nat → Bool} {F : Fr} {tmps : Array Value} (h : FR M F tmps) (hq : F.all (fun e => Ab.okv q e.2) = true) (hm : ∀ j p, q j = true → M[j]? = some p → M'[j]? = some p) : FR M' F tmps := fun t v e =>
  let ⟨u, h1, h2⟩ := h t v e
  ⟨u, h1, h2.okv (List.all_eq_true.1 hq (t, v) (Fr.mem e)) hm⟩
theorem VRs.plain {M : Mp} {xs : List Value} (h : xs.all Ab.plain = true) : VRs M xs xs := plains (fun _ => plain_VR) h
theorem VRs.plain_eq {M : Mp} {xs ys : List Value} (h : xs.all Ab.plain = true) (k : VRs M xs ys) : ys = xs := plains_eq (fun _ _ => Ab.plain_eq) h k
/-- Some blocks of a map, under new numbers. -/
def selM (M : Mp) (sel : List Nat) : Mp := sel.map (fun s => M.getD s (0, 0, 0))
theorem selM_get {M : Mp} {sel : List Nat} {i s : Nat} (h : sel[i]? = some s) (hs : s < M.length) : (selM M sel)[i]? = M[s]? := by
  simp [selM, List.getElem?_map, h, List.getD_eq_getElem?_getD, List.getElem?_eq_getElem hs]
theorem selM_some {M : Mp} {sel : List Nat} {i : Nat} {p : Pl} (h : (selM M sel)[i]? = some p) (hM : ∀ s ∈ sel, s < M.length) : ∃ s, sel[i]? = some s ∧ M[s]? = some p := by
  cases hs : sel[i]? with
  | none => simp [selM, List.getElem?_map, hs] at h
  | some s => exact ⟨s, rfl, by rw [← selM_get hs (hM s (List.mem_of_getElem? hs))]; exact h⟩
theorem At.sel {B : Nat} {w0 : World} {lo n : Nat} {M : Mp} {F F' : Fr} {H H' : Heap} {a : Act} {w : World} (h : At B w0 lo n M F H a w) (sel : List Nat)
    (hl : H'.length = sel.length) (hM : ∀ s ∈ sel, s < M.length) (hlo : ∀ (i s : Nat), sel[i]? = some s → lo ≤ i → lo ≤ s) (hnd : ∀ (i j s : Nat), sel[i]? = some s → sel[j]? = some s → i = j)
    (hb : ∀ (i : Nat) (b : Blk), H'[i]? = some (some b) → ∃ s, sel[i]? = some s ∧ H[s]? = some (some b) ∧ b.view = none ∧ b.cells.all plain = true ∧ (lo ≤ s → lo ≤ i))
    (hF : FR (selM M sel) F' a.tmps) : At B w0 lo n (selM M sel) F' H' a w := by
  refine ⟨⟨by simp [selM, hl], fun i p e => ?_, fun i b e => ?_, fun i p hi e => ?_, fun i j b b' p q hij e1 e2 e3 e4 hlo' => ?_⟩, hF, h.size, h.defers, h.below, h.base, fun i p hi e => ?_⟩
  · obtain ⟨s, _, h2⟩ := selM_some e hM
    exact h.rel.dom s p h2
  · obtain ⟨s, h1, h2, h3, h4, h5⟩ := hb i b e
    obtain ⟨r, o, cs, t, fz, g1, g2, g3, g4, g5, g6⟩ := h.rel.blk s b h2
    refine ⟨r, o, cs, t, fz, by rw [selM_get h1 (hM s (List.mem_of_getElem? h1))]; exact g1, g2, fun hi => g3 (hlo i s h1 hi), g4, ?_, fun p o' hv => by rw [h3] at hv; cases hv⟩
    rw [VRs.plain_eq h4 g5]
    exact VRs.plain h4
  · obtain ⟨s, h1, h2⟩ := selM_some e hM
    exact h.rel.own s p (hlo i s h1 hi) h2
  · obtain ⟨s, f1, f2⟩ := selM_some e3 hM
    obtain ⟨s', f3, f4⟩ := selM_some e4 hM
    obtain ⟨_, k1, k2, _, _, _⟩ := hb i b e1
    obtain ⟨_, k3, k4, _, _, _⟩ := hb j b' e2
    rw [f1] at k1; cases k1
    rw [f3] at k3; cases k3
    refine h.rel.inj s s' b b' p q (fun hss => hij (hnd i j s f1 (by rw [hss]; exact f3))) k2 k4 f2 f4 ?_
    rcases hlo' with hi | hi
    · exact .inl (hlo i s f1 hi)
    · exact .inr (hlo j s' f3 hi)
  · obtain ⟨s, h1, h2⟩ := selM_some e hM
    exact h.own s p (hlo i s h1 hi) h2
/-- A part of a row that was there is told. -/
theorem At.view {B : Nat} {w0 : World} {lo n : Nat} {M : Mp} {F : Fr} {H : Heap} {a : Act} {w : World} (h : At B w0 lo n M F H a w) {i : Nat} {b : Blk} (hi : i < lo) (hiH : H[i]? = some none)
    (hnv : ∀ (j : Nat) (x : Blk), H[j]? = some (some x) → x.view = none ∧ x.cells.all plain = true) {r s : Nat} {cs : List Value} {t : TypeId} {fz : Nat × Nat} (hr : r < B) (hw : w0.heap[r]? = some (.cells cs.toArray t fz))
    (hs : s + b.cells.length ≤ cs.length) (hp : b.cells.all plain = true) (hv : (cs.drop s).take b.cells.length = b.cells)
    (hview : ∀ (p' o : Nat), b.view = some (p', o) → p' ≠ i ∧ ∃ s' N', M[p']? = some (r, s', N') ∧ s = s' + o) (hF : FR (M.set i (r, s, cs.length)) F a.tmps) :
    At B w0 lo n (M.set i (r, s, cs.length)) F (H.set i (some b)) a w := by
  have hiL : i < H.length := (List.getElem?_eq_some_iff.1 hiH).1
  have hiM : i < M.length := by rw [h.rel.len]; exact hiL
  have hw' : w.heap[r]? = some (.cells cs.toArray t fz) := by rw [h.below.block r hr]; exact hw
  have gM : ∀ (j : Nat) (p : Pl), (M.set i (r, s, cs.length))[j]? = some p → (j = i ∧ p = (r, s, cs.length)) ∨ (j ≠ i ∧ M[j]? = some p) := by
    intro j p e
    by_cases hj : j = i
    · subst hj; rw [List.getElem?_set_self hiM] at e; cases e; exact .inl ⟨rfl, rfl⟩
    · rw [List.getElem?_set_ne (fun e => hj e.symm)] at e; exact .inr ⟨hj, e⟩
  have gH : ∀ (j : Nat) (x : Blk), (H.set i (some b))[j]? = some (some x) → (j = i ∧ x = b) ∨ (j ≠ i ∧ H[j]? = some (some x)) := by
    intro j x e
    by_cases hj : j = i
    · subst hj; rw [List.getElem?_set_self hiL] at e; cases e; exact .inl ⟨rfl, rfl⟩
    · rw [List.getElem?_set_ne (fun e => hj e.symm)] at e; exact .inr ⟨hj, e⟩
  refine ⟨⟨by simp [h.rel.len], fun j p e => ?_, fun j x e => ?_, fun j p hj e => ?_, fun j k x y p q hjk e1 e2 e3 e4 hl => ?_⟩, hF, h.size, h.defers, h.below, h.base, fun j p hj e => ?_⟩
  · rcases gM j p e with ⟨_, rfl⟩ | ⟨_, e⟩
    · exact Nat.lt_of_lt_of_le hr h.base
    · exact h.rel.dom j p e
  · rcases gH j x e with ⟨rfl, rfl⟩ | ⟨hj, e⟩
    · exact ⟨r, s, cs, t, fz, List.getElem?_set_self hiM, hw', fun hlo => absurd hlo (by omega), hs, by rw [hv]; exact VRs.plain hp, fun p o hpo => by
        obtain ⟨h1, s', N', h2, h3⟩ := hview p o hpo
        exact ⟨s', N', by rw [List.getElem?_set_ne (fun e => h1 e.symm)]; exact h2, h3⟩⟩
    · obtain ⟨r', o, cs', t', fz', g1, g2, g3, g4, g5, g6⟩ := h.rel.blk j x e
      obtain ⟨k1, k2⟩ := hnv j x e
      exact ⟨r', o, cs', t', fz', by rw [List.getElem?_set_ne (fun e => hj e.symm)]; exact g1, g2, g3, g4, by rw [VRs.plain_eq k2 g5]; exact VRs.plain k2, fun p o' hv' => by rw [k1] at hv'; cases hv'⟩
  · rcases gM j p e with ⟨rfl, _⟩ | ⟨_, e⟩
    · omega
    · exact h.rel.own j p hj e
  · rcases gM j p e3 with ⟨rfl, rfl⟩ | ⟨hj, f3⟩ <;> rcases gM k q e4 with ⟨rfl, rfl⟩ | ⟨hk, f4⟩
    · exact absurd rfl hjk
    · have := h.own k q (by rcases hl with hl | hl <;> omega) f4
      show r ≠ q.1
      omega
    · have := h.own j p (by rcases hl with hl | hl <;> omega) f3
      show p.1 ≠ r
      omega
    · rcases gH j x e1 with ⟨hj', _⟩ | ⟨_, g1⟩
      · exact absurd hj' hj
      rcases gH k y e2 with ⟨hk', _⟩ | ⟨_, g2⟩
      · exact absurd hk' hk
      exact h.rel.inj j k x y p q hjk g1 g2 f3 f4 hl
  · rcases gM j p e with ⟨rfl, _⟩ | ⟨_, e⟩
    · omega
    · exact h.own j p hj e
/-- At the beginning: blocks that were there, of which nothing is told yet. -/
theorem At.start {w : World} {n : Nat} {M : Mp} {F : Fr} {a : Act} (hM : ∀ (i : Nat) (p : Pl), M[i]? = some p → p.1 < w.heap.size) (hF : FR M F a.tmps) (hs : a.tmps.size = n) (hd : a.defers = []) :
    At w.heap.size w M.length n M F (List.replicate M.length none) a w := by
  have no : ∀ (i : Nat) (b : Blk), (List.replicate M.length (none : Option Blk))[i]? ≠ some (some b) := by
    intro i b e
    obtain ⟨h1, h2⟩ := List.getElem?_eq_some_iff.1 e
    rw [List.getElem_replicate] at h2; cases h2
  have big : ∀ (i : Nat) (p : Pl), M.length ≤ i → M[i]? ≠ some p := by
    intro i p hi e
    rw [List.getElem?_eq_none hi] at e; cases e
  exact ⟨⟨by simp, hM, fun i b e => absurd e (no i b), fun i p hi e => absurd e (big i p hi), fun i j b b' p q _ e => absurd e (no i b)⟩, hF, hs, hd, Below.refl _ _, Nat.le_refl _, fun i p hi e => absurd e (big i p hi)⟩
end Go.Proofs.Ytcaohimipkoapaa.Ab
