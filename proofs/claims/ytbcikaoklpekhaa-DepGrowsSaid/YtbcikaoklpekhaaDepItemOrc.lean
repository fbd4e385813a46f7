/- What item's calls answer: the oracle of its run. -/
import Derived.Test.YtbcikaoklpekhaaDepOp
import Derived.Test.YtbcikaoklpekhaaDepJoin
import Derived.Test.YtbcikaoklpekhaaAb19
namespace Go.Proofs.Ytbcikaoklpekhaa.Ab
open Go Go.RowKit
set_option linter.unusedVariables false
set_option linter.unusedSimpArgs false
set_option maxRecDepth 100000
/-- A list that a call may be handed. -/
noncomputable def okL (v : Value) : Bool := @decide (∃ xs : List Int, v = L1 xs ∧ xs.length ≤ 1048576) (Classical.propDecidable _)
theorem okL_spec {v : Value} (h : okL v = true) : ∃ xs : List Int, v = L1 xs ∧ xs.length ≤ 1048576 := @of_decide_eq_true _ (Classical.propDecidable _) h
theorem okL_L1 {xs : List Int} (h : xs.length ≤ 1048576) : okL (L1 xs) = true := @decide_eq_true _ (Classical.propDecidable _) ⟨xs, rfl, h⟩
def unL : Value → List Int
  | .func _ ⟨xs⟩ _ => ints xs
  | _ => []
theorem unL_L1 (xs : List Int) : unL (L1 xs) = xs := ints_map xs
/-- Two lists joined, or three. -/
noncomputable def join2V (a b : Value) : Value := L1 (jn (unL a ++ unL b))
noncomputable def join3V (a b c : Value) : Value := L1 (jn (unL a ++ unL b ++ unL c))
theorem join2_at (xs ys : List Int) (hx : xs.length ≤ 1048576) (hy : ys.length ≤ 1048576) (lo : Nat) (H : Heap) : CallOK Try.prog lo 29 [gs 1 [L1 xs, L1 ys] 2] H (L1 (jn (xs ++ ys))) H :=
  (join2 xs ys hx hy).call (fun v hv => by
    rw [List.mem_singleton] at hv
    rw [hv]
    refine Gh.gs fun y hy => ?_
    simp only [List.mem_cons, List.not_mem_nil, or_false] at hy
    rcases hy with rfl | rfl <;> exact Gh.L1 _) lo H
theorem join3_at (xs ys zs : List Int) (hx : xs.length ≤ 1048576) (hy : ys.length ≤ 1048576) (hz : zs.length ≤ 1048576) (lo : Nat) (H : Heap) : CallOK Try.prog lo 29 [gs 1 [L1 xs, L1 ys, L1 zs] 3] H (L1 (jn (xs ++ ys ++ zs))) H :=
  (join3 xs ys zs hx hy hz).call (fun v hv => by
    rw [List.mem_singleton] at hv
    rw [hv]
    refine Gh.gs fun y hy => ?_
    simp only [List.mem_cons, List.not_mem_nil, or_false] at hy
    rcases hy with rfl | rfl | rfl <;> exact Gh.L1 _) lo H
noncomputable def itΦ : Oracle := fun lo f args H => match f with
  | 25 => match args with
    | [.int .u32 w] => some [(true, decV w, H)]
    | _ => none
  | 26 => match args with
    | [.int .i64 op] => some [(isOp op, .int .i64 (kindF op), H)]
    | _ => none
  | 27 => match args with
    | [.agg ⟨[.int .u32 wd, .int .u32 pa, .int .u32 ld, .int .u32 vl, .bool dn, .bool tr]⟩, .agg ⟨[.int .i64 op, .int .i64 rd, .int .i64 r1, .int .i64 r2, .int .i64 csr, .int .u32 imm, .bool aq, .bool rl]⟩] =>
      some [(isOp op, opV (opF op imm aq rl pa ld vl dn), H)]
    | _ => none
  | 28 => match args with
    | [v] => some [(okL v, L1 (unL v), H)]
    | _ => none
  | 29 => match args with
    | [.func (.yield 1) ⟨[a, b]⟩ ⟨[.int .i64 2]⟩] => some [(okL a && okL b, join2V a b, H)]
    | [.func (.yield 1) ⟨[a, b, c]⟩ ⟨[.int .i64 3]⟩] => some [(okL a && (okL b && okL c), join3V a b c, H)]
    | _ => none
  | 30 => match args with
    | [.int .i64 op] => some [(isOp op, .tuple ⟨[.bool (rdF op), .bool (rs1F op), .bool (rs2F op), .bool (immB op)]⟩, H)]
    | _ => none
  | _ => none
theorem itΦ_ok : CtxOK Try.prog (ctx itΦ) := ctxOK fun lo f args H l v H' h hm => by
  unfold itΦ at h
  split at h
  · split at h
    · cases h
      simp only [List.mem_cons, List.not_mem_nil, or_false, Prod.mk.injEq] at hm
      obtain ⟨hc, rfl, rfl⟩ := hm
      exact ⟨(decodeOK _).call (gh_plains rfl) lo H', rfl⟩
    · cases h
  · split at h
    · cases h
      simp only [List.mem_cons, List.not_mem_nil, or_false, Prod.mk.injEq] at hm
      obtain ⟨hc, rfl, rfl⟩ := hm
      exact ⟨(kindOK hc.symm).call (gh_plains rfl) lo H', rfl⟩
    · cases h
  · split at h
    · rename_i wd pa ld vl dn tr op rd r1 r2 csr imm aq rl
      cases h
      simp only [List.mem_cons, List.not_mem_nil, or_false, Prod.mk.injEq] at hm
      obtain ⟨hc, rfl, rfl⟩ := hm
      exact ⟨(opOK ⟨op, rd, r1, r2, csr, imm, aq, rl⟩ ⟨wd, pa, ld, vl, dn, tr⟩ hc.symm).call (gh_plains rfl) lo H', rfl⟩
    · cases h
  · split at h
    · cases h
      simp only [List.mem_cons, List.not_mem_nil, or_false, Prod.mk.injEq] at hm
      obtain ⟨hc, rfl, rfl⟩ := hm
      obtain ⟨xs, rfl, hx⟩ := okL_spec hc.symm
      rw [unL_L1]
      exact ⟨(clonePure xs hx).call (fun a ha => by simp at ha; subst ha; exact Gh.L1 xs) lo H', rfl⟩
    · cases h
  · split at h
    · cases h
      simp only [List.mem_cons, List.not_mem_nil, or_false, Prod.mk.injEq] at hm
      obtain ⟨hc, rfl, rfl⟩ := hm
      have hc := hc.symm
      simp only [Bool.and_eq_true] at hc
      obtain ⟨xs, rfl, hx⟩ := okL_spec hc.1
      obtain ⟨ys, rfl, hy⟩ := okL_spec hc.2
      unfold join2V
      rw [unL_L1, unL_L1]
      exact ⟨join2_at xs ys hx hy lo H', rfl⟩
    · cases h
      simp only [List.mem_cons, List.not_mem_nil, or_false, Prod.mk.injEq] at hm
      obtain ⟨hc, rfl, rfl⟩ := hm
      have hc := hc.symm
      simp only [Bool.and_eq_true] at hc
      obtain ⟨xs, rfl, hx⟩ := okL_spec hc.1
      obtain ⟨ys, rfl, hy⟩ := okL_spec hc.2.1
      obtain ⟨zs, rfl, hz⟩ := okL_spec hc.2.2
      unfold join3V
      rw [unL_L1, unL_L1, unL_L1]
      exact ⟨join3_at xs ys zs hx hy hz lo H', rfl⟩
    · cases h
  · split at h
    · cases h
      simp only [List.mem_cons, List.not_mem_nil, or_false, Prod.mk.injEq] at hm
      obtain ⟨hc, rfl, rfl⟩ := hm
      exact ⟨(usesOK hc.symm).call (gh_plains rfl) lo H', rfl⟩
    · cases h
  · cases h
end Go.Proofs.Ytbcikaoklpekhaa.Ab
