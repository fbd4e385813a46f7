/- The chapter's examples: first answers true. -/
import Derived.Test.YtbcikaoklpekhaaDepSame
import Derived.Test.YtbcikaoklpekhaaDepSteps
import Derived.Test.YtbcikaoklpekhaaDepWordsA
namespace Go.Proofs.Ytbcikaoklpekhaa.Ab
open Go Go.RowKit
set_option linter.unusedVariables false
set_option linter.unusedSimpArgs false
set_option maxRecDepth 100000
/-- What a pure call answers. -/
noncomputable def isPure (f : FuncId) (args : List Value) (v : Value) : Bool := @decide (PureOK Try.prog f args v ∧ ∀ a ∈ args, Gh a) (Classical.propDecidable _)
theorem isPure_of {f : FuncId} {args : List Value} {v : Value} (h : PureOK Try.prog f args v) (hg : ∀ a ∈ args, Gh a) : isPure f args v = true := @decide_eq_true _ (Classical.propDecidable _) ⟨h, hg⟩
theorem isPure_call {f : FuncId} {args : List Value} {v : Value} (h : true = isPure f args v) (lo : Nat) (H : Heap) : CallOK Try.prog lo f args H v H :=
  have h := @of_decide_eq_true _ (Classical.propDecidable _) h.symm
  h.1.call h.2 lo H
theorem plains_gh {l : List Value} (h : l.all plain = true) : ∀ a ∈ l, Gh a := fun a ha => Gh.plain (List.all_eq_true.1 h a ha)
noncomputable def fsΦ (W : Int → Int → Int → Int → Int → Int) (G : Int → Int → Int → Int → Int → Bool) (G9 : List Value → Nat → Bool) (q : Nat → OpT) : Oracle := fun lo f args H => match f with
  | 13 => match args with
    | [.int .i64 op, .int .i64 a, .int .i64 b, .int .i64 c, .int .u32 i] => some [(G op a b c i, .int .u32 (W op a b c i), H)]
    | _ => none
  | 9 => match args with
    | [.func (.yield 6) ⟨xs⟩ ⟨[.int .i64 (.ofNat n)]⟩] => match n with
      | 2 => some [(G9 xs 2, gs 13 (opC (q 0) (L1 []) (L1 []) (L1 []) ++ opC (q 1) (L1 []) (L1 [0]) (L1 [])) 2, H)]
      | 3 => some [(G9 xs 3, gs 13 (opC (q 2) (L1 []) (L1 []) (L1 []) ++ opC (q 3) (L1 []) (L1 []) (L1 [0])) 2, H)]
      | _ => none
    | _ => none
  | _ => none
theorem first_run (W : Int → Int → Int → Int → Int → Int) (G : Int → Int → Int → Int → Int → Bool) (G9 : List Value → Nat → Bool) (q : Nat → OpT) : callK (ctx (fsΦ W G G9 q)) 90 0 7 [] [] (fun v _ => some v) =
    bif G 13 1 2 0 0 then bif G 18 0 3 1 0 then bif G9 (itemsC [mkI (W 13 1 2 0 0), mkI (W 18 0 3 1 0)]) 2 then
    bif G 13 1 2 0 0 then bif G 5 0 1 0 8 then bif G 18 0 3 4 0 then bif G9 (itemsC [mkI (W 13 1 2 0 0), mkI (W 5 0 1 0 8), mkI (W 18 0 3 4 0)]) 3 then some (.bool true) else none else none else none else none else none else none else none := by kernel_rfl
def fsW (op a b c i : Int) : Int := if op = 13 then 73859 else if op = 5 then 33891 else if c = 1 then 1155107 else 4300835
noncomputable def fsG (op a b c i : Int) : Bool := isPure 13 [.int .i64 op, .int .i64 a, .int .i64 b, .int .i64 c, .int .u32 i] (.int .u32 (fsW op a b c i))
def fsV (q : Nat → OpT) (n : Nat) : Value := match n with
  | 2 => gs 13 (opC (q 0) (L1 []) (L1 []) (L1 []) ++ opC (q 1) (L1 []) (L1 [0]) (L1 [])) 2
  | _ => gs 13 (opC (q 2) (L1 []) (L1 []) (L1 []) ++ opC (q 3) (L1 []) (L1 []) (L1 [0])) 2
noncomputable def fsG9 (q : Nat → OpT) (xs : List Value) (n : Nat) : Bool := isPure 9 [gs 6 xs n] (fsV q n)
theorem fsΦ_ok (q : Nat → OpT) : CtxOK Try.prog (ctx (fsΦ fsW fsG (fsG9 q) q)) := ctxOK fun lo f args H l v H' h hm => by
  unfold fsΦ at h
  split at h
  · split at h
    · cases h
      simp only [List.mem_cons, List.not_mem_nil, or_false, Prod.mk.injEq] at hm
      obtain ⟨h1, rfl, rfl⟩ := hm
      exact ⟨isPure_call h1 lo H', rfl⟩
    · cases h
  · split at h
    · split at h
      · cases h
        simp only [List.mem_cons, List.not_mem_nil, or_false, Prod.mk.injEq] at hm
        obtain ⟨h1, rfl, rfl⟩ := hm
        exact ⟨isPure_call h1 lo H', rfl⟩
      · cases h
        simp only [List.mem_cons, List.not_mem_nil, or_false, Prod.mk.injEq] at hm
        obtain ⟨h1, rfl, rfl⟩ := hm
        exact ⟨isPure_call h1 lo H', rfl⟩
      · cases h
    · cases h
  · cases h
def fsA : List Item := [mkI 73859, mkI 1155107]
def fsB : List Item := [mkI 73859, mkI 33891, mkI 4300835]
theorem jn_one (x : Int) : jn [x] = [x] := jn_eq (List.pairwise_singleton _ _) (fun _ => Iff.rfl)
theorem fsA_ops : ∃ q0 q1, (runF fsA).ops = [⟨q0, [], [], []⟩, ⟨q1, [], [0], []⟩] := by
  unfold runF fsA
  simp only [List.foldl_cons, List.foldl_nil]
  rw [itemF_inst (x := mkI 73859) d_Lw_1_2_0_0 rfl, inst_lw _ _ _ _ _ _ rfl, itemF_inst (x := mkI 1155107) d_Sw_0_3_1_0 rfl, inst_sw]
  exact ⟨_, _, rfl⟩
theorem fsB_ops : ∃ q0 q1, (runF fsB).ops = [⟨q0, [], [], []⟩, ⟨q1, [], [], [0]⟩] := by
  have e : jn (St.nil.ctrl ++ upd St.nil.R 1 [0] 1 ++ upd St.nil.R 1 [0] 0) = [0] := jn_one 0
  unfold runF fsB
  simp only [List.foldl_cons, List.foldl_nil]
  rw [itemF_inst (x := mkI 73859) d_Lw_1_2_0_0 rfl, inst_lw _ _ _ _ _ _ rfl, itemF_inst (x := mkI 33891) d_Beq_0_1_0_8 rfl, inst_beq, itemF_inst (x := mkI 4300835) d_Sw_0_3_4_0 rfl, inst_sw]
  have e2 : jn (St.nil.ctrl ++ upd St.nil.R (Int.toNat 1) [Int.ofNat St.nil.ops.length] (Int.toNat 1) ++ upd St.nil.R (Int.toNat 1) [Int.ofNat St.nil.ops.length] (Int.toNat 0)) = [0] := e
  simp only [e2]
  exact ⟨_, _, rfl⟩
theorem firstOK : PureOK Try.prog 7 [] (.bool true) := by
  obtain ⟨q0, q1, hA⟩ := fsA_ops
  obtain ⟨q2, q3, hB⟩ := fsB_ops
  let q : Nat → OpT := fun n => match n with | 0 => q0 | 1 => q1 | 2 => q2 | _ => q3
  have oA := opsOK fsA (by decide)
  have oB := opsOK fsB (by decide)
  rw [hA] at oA; rw [hB] at oB
  have h := first_run fsW fsG (fsG9 q) q
  have g1 : fsG 13 1 2 0 0 = true := isPure_of w_Lw_1_2_0_0 (plains_gh rfl)
  have g2 : fsG 18 0 3 1 0 = true := isPure_of w_Sw_0_3_1_0 (plains_gh rfl)
  have g3 : fsG 5 0 1 0 8 = true := isPure_of w_Beq_0_1_0_8 (plains_gh rfl)
  have g4 : fsG 18 0 3 4 0 = true := isPure_of w_Sw_0_3_4_0 (plains_gh rfl)
  have gg : ∀ (l : List Item) (n : Nat), ∀ a ∈ [gs 6 (itemsC l) n], Gh a := fun l n a ha => by
    rw [List.mem_singleton] at ha; rw [ha]; exact Gh.gs (itemsC_gh l)
  have g5 : fsG9 q (itemsC [mkI (fsW 13 1 2 0 0), mkI (fsW 18 0 3 1 0)]) 2 = true := isPure_of oA (gg fsA 2)
  have g6 : fsG9 q (itemsC [mkI (fsW 13 1 2 0 0), mkI (fsW 5 0 1 0 8), mkI (fsW 18 0 3 4 0)]) 3 = true := isPure_of oB (gg fsB 3)
  rw [g1, g2, g3, g4, g5, g6] at h
  exact PureOK.of_run (fsΦ_ok q) h (Gh.plain rfl)
end Go.Proofs.Ytbcikaoklpekhaa.Ab
