/- dep.Ops and dep.Places: what hang made, told by what it holds. -/
import Derived.Test.YtbcikaoklpekhaaDepHang
namespace Go.Proofs.Ytbcikaoklpekhaa.Ab
open Go Go.RowKit
set_option linter.unusedVariables false
set_option linter.unusedSimpArgs false
set_option maxRecDepth 100000
noncomputable def opΦ (G : Nat → List Value → Heap → Bool) (K : Heap) : Oracle := fun lo f args H => match f with
  | 16 => some [(G lo args H, ptr 0, K)]
  | _ => none
theorem op9_run (G : Nat → List Value → Heap → Bool) (R : Nat → Value) (c o a : Value) (b1 b2 : Option Blk) (xs : List Value) (n : Nat) :
    callK (ctx (opΦ G [hgB R c o a, b1, b2])) 20 0 9 [gs 6 xs n] [] (fun v H => some (v, H)) = bif G 0 [gs 6 xs n] [] then some (o, [hgB R c o a, b1, b2]) else none := by kernel_rfl
theorem op15_run (G : Nat → List Value → Heap → Bool) (R : Nat → Value) (c o a : Value) (b1 b2 : Option Blk) (xs : List Value) (n : Nat) :
    callK (ctx (opΦ G [hgB R c o a, b1, b2])) 20 0 15 [gs 6 xs n] [] (fun v H => some (v, H)) = bif G 0 [gs 6 xs n] [] then some (a, [hgB R c o a, b1, b2]) else none := by kernel_rfl
theorem opΦ_ok {A : List Value} {H' : Heap} (h : CallOK Try.prog 0 16 A [] (ptr 0) H') : CtxOK Try.prog (ctx (opΦ (hgG A []) H')) := ctxOK fun lo f args H l v H'' e hm => by
  unfold opΦ at e
  split at e
  · cases e
    simp only [List.mem_cons, List.not_mem_nil, or_false, Prod.mk.injEq] at hm
    obtain ⟨h1, rfl, rfl⟩ := hm
    obtain ⟨rfl, rfl, rfl⟩ := @of_decide_eq_true _ (Classical.propDecidable _) h1.symm
    exact ⟨h, rfl⟩
  · cases e
theorem froz_row {f : Nat} {A : List Value} {k n z : Nat} {e : TypeId} {l : List Value} {H' : Heap} (h : CallOK Try.prog 0 f A [] (sliV k n z) H') (hz : 0 < z) (hb : 0 < n → H'[k]? = some (some ⟨l, e, none⟩)) (hl : l.length = n * z) (hg : ∀ x ∈ l, Gh x) : PureOK Try.prog f A (gs z l n) := by
  cases n with
  | zero =>
    have : l = [] := by simpa using hl
    subst this
    exact PureOK.of_call (CallOK.nil_gs h z) (Gh.gs hg)
  | succ n =>
    have h2 := CallOK.froz (i := k) (n := n + 1) (z := z) h rfl (Nat.zero_le _) hz (hb (by omega)) (by simp [hl]) hg
    rw [show (⟨l, e, none⟩ : Blk).cells.take ((n + 1) * z) = l from List.take_of_length_le (by rw [hl]; exact Nat.le_refl _)] at h2
    exact PureOK.of_call h2 (Gh.gs hg)
theorem hgG_true (A : List Value) (H : Heap) : hgG A H 0 A H = true := @decide_eq_true _ (Classical.propDecidable _) ⟨rfl, rfl, rfl⟩
theorem opsOK (l : List Item) (hl : l.length ≤ 1000000) : PureOK Try.prog 9 [gs 6 (itemsC l) l.length] (gs 13 (opsC (runF l).ops) (runF l).ops.length) := by
  have h := op9_run (hgG [gs 6 (itemsC l) l.length] []) (stR (runF l)) (L1 (runF l).ctrl) (sliV 1 (runF l).ops.length 13) (sliV 2 (runF l).ats.length 1) (rowB (runF l).ops.length (opsC (runF l).ops) 32) (rowB (runF l).ats.length ((runF l).ats.map (Value.int .i64)) 3) (itemsC l) l.length
  rw [hgG_true, cond_true] at h
  obtain ⟨v, H', h1, h2, _⟩ := callK_sound (opΦ_ok (hang_ok l hl)) _ _ _ _ _ _ _ h
  cases h1
  refine froz_row h2 (e := 32) (by omega) (fun hn => ?_) (opsC_len _) (opsC_gh _)
  obtain ⟨m, hm⟩ : ∃ m, (runF l).ops.length = m + 1 := ⟨(runF l).ops.length - 1, by omega⟩
  rw [hm]; rfl
theorem placesOK (l : List Item) (hl : l.length ≤ 1000000) : PureOK Try.prog 15 [gs 6 (itemsC l) l.length] (L1 (runF l).ats) := by
  have h := op15_run (hgG [gs 6 (itemsC l) l.length] []) (stR (runF l)) (L1 (runF l).ctrl) (sliV 1 (runF l).ops.length 13) (sliV 2 (runF l).ats.length 1) (rowB (runF l).ops.length (opsC (runF l).ops) 32) (rowB (runF l).ats.length ((runF l).ats.map (Value.int .i64)) 3) (itemsC l) l.length
  rw [hgG_true, cond_true] at h
  obtain ⟨v, H', h1, h2, _⟩ := callK_sound (opΦ_ok (hang_ok l hl)) _ _ _ _ _ _ _ h
  cases h1
  refine froz_row h2 (e := 3) (by omega) (fun hn => ?_) (by simp) (ints_gh _)
  obtain ⟨m, hm⟩ : ∃ m, (runF l).ats.length = m + 1 := ⟨(runF l).ats.length - 1, by omega⟩
  rw [hm]; rfl
end Go.Proofs.Ytbcikaoklpekhaa.Ab
