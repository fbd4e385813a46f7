/- The abstract run, eighteenth part: told anew under the same numbers, in one step; results of a call at its end. -/
import Derived.Test.YtcaohimipkoapaaAb17
namespace Go.Proofs.Ytcaohimipkoapaa.Ab
open Go Go.RowKit
set_option linter.unusedVariables false
set_option linter.unusedSimpArgs false
/-- A block of which all is told, and that is no view. -/
def OKB (b : Blk) : Prop := b.view = none ∧ b.cells.all plain = true
/-- The first k blocks are told on, of each all or nothing. -/
theorem At.keep {B : Nat} {w0 : World} {lo n : Nat} {M : Mp} {F F' : Fr} {H H' : Heap} {a : Act} {w : World} (h : At B w0 lo n M F H a w) (k : Nat) (hk : k ≤ H.length) (hl : H'.length = k)
    (hb : ∀ (i : Nat) (b : Blk), H'[i]? = some (some b) → H[i]? = some (some b) ∧ OKB b)
    (hF : ∀ e ∈ F', F.get e.1 = some e.2 ∧ okv (fun j => Nat.ble (j + 1) k) e.2 = true) :
    ∃ M', (∀ j, j < k → M'[j]? = M[j]?) ∧ At B w0 lo n M' F' H' a w := by
  have hkM : k ≤ M.length := by rw [h.rel.len]; exact hk
  have ix : ∀ (i s : Nat), (List.range k)[i]? = some s → i = s ∧ i < k := by
    intro i s e
    obtain ⟨h1, h2⟩ := List.getElem?_eq_some_iff.1 e
    rw [List.getElem_range] at h2
    exact ⟨h2, by simpa using h1⟩
  have same : ∀ j, j < k → (selM M (List.range k))[j]? = M[j]? := by
    intro j hj
    rw [selM_get (s := j) (by simp [hj]) (by omega)]
  refine ⟨selM M (List.range k), same, h.sel (List.range k) (by simp [hl]) (fun s hs => ?_) (fun i s e => ?_) (fun i j s e1 e2 => ?_) (fun i b e => ?_) (FR.list fun e he => ?_)⟩
  · have := List.mem_range.1 hs
    omega
  · rw [(ix i s e).1]; exact id
  · rw [(ix i s e1).1, (ix j s e2).1]
  · obtain ⟨h1, h2, h3⟩ := hb i b e
    have hi : i < k := by rw [← hl]; exact (List.getElem?_eq_some_iff.1 e).1
    exact ⟨i, by simp [hi], h1, h2, h3, id⟩
  · obtain ⟨h1, h2⟩ := hF e he
    obtain ⟨u, h3, h4⟩ := h.fr e.1 e.2 h1
    exact ⟨u, h3, h4.okv h2 fun j p hj hp => by rw [same j (Nat.le_of_ble_eq_true hj)]; exact hp⟩
/-- A call's end: its one result is true. -/
theorem At.ret_true {P : Program} {C : Ctx} (hC : CtxOK P C) {fn : Func} {t : Tmp} (hfn : fn.results.toList = [.tmp t]) {B : Nat} {w0 : World} {lo n : Nat} {M : Mp} {F : Fr} {H : Heap} {a : Act} {w : World} (h : At B w0 lo n M F H a w) (hB : B = w0.heap.size) (ht : F.get t = some (.bool true)) :
    bodyPost P fn (fun e w' => e = .returned (.bool true) ∧ Below w0.heap.size w0 w') .ret a w := by
  have hr : resA C.T F H fn.results.toList = some [.bool true] := by
    rw [hfn]; simp only [resA, ht]
  obtain ⟨rv, h1, h2⟩ := results_sound hC h.rel h.fr hr
  have : rv = .bool true := plain_eq rfl h1
  subst this
  exact ⟨h.defers, _, h2, rfl, hB ▸ h.below⟩
end Go.Proofs.Ytcaohimipkoapaa.Ab
