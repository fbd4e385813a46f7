/- The abstract run, seventeenth part: told pieces put together: rows, blocks, conditions, loops, calls; told anew. -/
import Derived.Test.YtbcikaoklpekhaaAb16
namespace Go.Proofs.Ytbcikaoklpekhaa.Ab
open Go Go.RowKit
set_option linter.unusedVariables false
set_option linter.unusedSimpArgs false
theorem Fr.get_mem : ∀ {F : Fr} {t : Nat} {v : Value}, F.get t = some v → (t, v) ∈ F
  | [], t, v, e => by cases e
  | (k, y) :: r, t, v, e => by
    simp only [Fr.get] at e
    cases hk' : (k == t) with
    | true =>
      rw [hk'] at e; cases e
      have : k = t := by simpa using hk'
      subst this; exact List.mem_cons_self ..
    | false => rw [hk'] at e; exact List.mem_cons_of_mem _ (Fr.get_mem e)
theorem RowOK.nil {P : Program} {lo n : Nat} {F : Fr} {H : Heap} : RowOK P lo n [] F H .normal F H :=
  fun M a w hR hF hs hd Q rest hk => hk M a w (Ext.refl _ _ _) hR (Keep.refl _ _ _) hF hs hd
theorem RowOK.app {P : Program} {lo n : Nat} {l l' : List Code} {F F1 F' : Fr} {H H1 H' : Heap} {e : Exit} (h : RowOK P lo n l F H .normal F1 H1) (k : RowOK P lo n l' F1 H1 e F' H') : RowOK P lo n (l ++ l') F H e F' H' := by
  intro M a w hR hF hs hd Q rest hk
  rw [List.append_assoc]
  refine h M a w hR hF hs hd Q (l' ++ rest) fun M1 a1 w1 hx1 hR1 hK1 hF1 hs1 hd1 => ?_
  exact k M1 a1 w1 hR1 hF1 hs1 hd1 Q rest fun M2 a2 w2 hx2 hR2 hK2 hF2 hs2 hd2 => hk M2 a2 w2 (hx1.trans hK1.size hx2) hR2 (hK1.trans hx1 hK2) hF2 hs2 hd2
/-- What is left early: the rest is not come to. -/
theorem RowOK.left {P : Program} {lo n : Nat} {l : List Code} {F F' : Fr} {H H' : Heap} {e : Exit} (h : RowOK P lo n l F H e F' H') (he : e ≠ .normal) (l' : List Code) : RowOK P lo n (l ++ l') F H e F' H' := by
  intro M a w hR hF hs hd Q rest hk
  rw [List.append_assoc]
  refine h M a w hR hF hs hd Q (l' ++ rest) fun M1 a1 w1 hx1 hR1 hK1 hF1 hs1 hd1 => ?_
  have := hk M1 a1 w1 hx1 hR1 hK1 hF1 hs1 hd1
  cases e <;> first | exact absurd rfl he | exact this
theorem RowOK.code {P : Program} {lo n : Nat} {c : Code} {F F' : Fr} {H H' : Heap} {e : Exit} (h : RowOK P lo n (flat c) F H e F' H') : CodeOK P lo n c F H e F' H' := by
  intro M a w hR hF hs hd Q hk
  refine wp_of_flat ?_
  have := h M a w hR hF hs hd Q [] fun M1 a1 w1 hx1 hR1 hK1 hF1 hs1 hd1 => by
    have := hk M1 a1 w1 hx1 hR1 hK1 hF1 hs1 hd1
    cases e <;> exact this
  rwa [List.append_nil] at this
theorem CodeOK.row {P : Program} {lo n : Nat} {c : Code} {F F' : Fr} {H H' : Heap} {e : Exit} (h : CodeOK P lo n c F H e F' H') : RowOK P lo n [c] F H e F' H' :=
  fun M a w hR hF hs hd Q rest hk => h M a w hR hF hs hd _ hk
/-- How a block is left. -/
def outOf (id : Nat) : Exit → Exit
  | .exit i => if i = id then .normal else .exit i
  | e => e
theorem CodeOK.block {P : Program} {lo n id : Nat} {c : Code} {F F' : Fr} {H H' : Heap} {e : Exit} (h : CodeOK P lo n c F H e F' H') : CodeOK P lo n (.block id c) F H (outOf id e) F' H' := by
  intro M a w hR hF hs hd Q hk
  refine wp_block (h M a w hR hF hs hd _ fun M1 a1 w1 hx1 hR1 hK1 hF1 hs1 hd1 => ?_)
  have := hk M1 a1 w1 hx1 hR1 hK1 hF1 hs1 hd1
  cases e with
  | exit i =>
    simp only [outOf, Exit.inBlock] at this ⊢
    split at this
    · rename_i hi; rw [if_pos hi]; exact this
    · rename_i hi; rw [if_neg hi]; exact this
  | _ => exact this
theorem CodeOK.cond {P : Program} {lo n : Nat} {t : Tmp} {b : Bool} {x y : Code} {F F' : Fr} {H H' : Heap} {e : Exit} (hb : F.get t = some (.bool b)) (h : CodeOK P lo n (bif b then x else y) F H e F' H') : CodeOK P lo n (.cond (.tmp t) x y) F H e F' H' := by
  intro M a w hR hF hs hd Q hk
  have e1 : a.eval (.tmp t) = .bool b := by
    have hv := arg_sound (x := .tmp t) hF hb
    generalize a.eval (.tmp t) = u at hv
    cases hv; rfl
  cases b with
  | true => exact wp_cond_true e1 (h M a w hR hF hs hd Q hk)
  | false => exact wp_cond_false e1 (h M a w hR hF hs hd Q hk)
/-- A loop: told at the head of each round; at the end it is left. -/
theorem CodeOK.loop {P : Program} {lo n : Nat} {c : Code} (F : Nat → Fr) (H : Nat → Heap) (m : Nat) {F' : Fr} {H' : Heap} {e : Exit} (he : e ≠ .normal) (hs : ∀ k, k < m → CodeOK P lo n c (F k) (H k) .normal (F (k + 1)) (H (k + 1))) (hend : CodeOK P lo n c (F m) (H m) e F' H') : CodeOK P lo n (.loop c) (F 0) (H 0) e F' H' := by
  have key : ∀ (d k : Nat), k + d = m → ∀ (M : Mp) (a : Act) (w : World), Rel lo M (H k) w → FR M (F k) a.tmps → a.tmps.size = n → a.defers = [] → ∀ (Q : Exit → Act → World → Prop),
      (∀ M' a' w', Ext lo M w M' → Rel lo M' H' w' → Keep lo M w w' → FR M' F' a'.tmps → a'.tmps.size = n → a'.defers = [] → Q e a' w') → Code.rounds P c Q (d + 1) a w := by
    intro d
    induction d with
    | zero =>
      intro k hk M a w hR hF hsz hd Q hq
      obtain rfl : k = m := by omega
      rw [rounds_succ]
      exact hend M a w hR hF hsz hd _ fun M1 a1 w1 hx1 hR1 hK1 hF1 hs1 hd1 => by
        have := hq M1 a1 w1 hx1 hR1 hK1 hF1 hs1 hd1
        cases e <;> first | exact this | exact absurd rfl he
    | succ d ih =>
      intro k hk M a w hR hF hsz hd Q hq
      rw [rounds_succ]
      exact hs k (by omega) M a w hR hF hsz hd _ fun M1 a1 w1 hx1 hR1 hK1 hF1 hs1 hd1 =>
        ih (k + 1) (by omega) M1 a1 w1 hR1 hF1 hs1 hd1 Q fun M2 a2 w2 hx2 hR2 hK2 hF2 hs2 hd2 => hq M2 a2 w2 (hx1.trans hK1.size hx2) hR2 (hK1.trans hx1 hK2) hF2 hs2 hd2
  intro M a w hR hF hsz hd Q hk
  exact wp_loop_rounds (m + 1) (key m 0 (by omega) M a w hR hF hsz hd Q hk)
/-- Told anew behind a row: some blocks, under new numbers; slots and cells in other words. -/
theorem RowOK.retell {P : Program} {lo n : Nat} {l : List Code} {F F1 F2 : Fr} {H H1 H2 : Heap} {e : Exit} (h : RowOK P lo n l F H e F1 H1) (sel : List Nat) (hk : ∀ i, i < H.length → sel[i]? = some i) (hsel : ∀ s ∈ sel, s < H1.length)
    (hnd : ∀ (i j s : Nat), sel[i]? = some s → sel[j]? = some s → i = j) (hlo : ∀ (i s : Nat), sel[i]? = some s → lo ≤ i → lo ≤ s) (hl : H2.length = sel.length)
    (hb : ∀ (i : Nat) (b' : Blk), H2[i]? = some (some b') → ∃ s b, sel[i]? = some s ∧ H1[s]? = some (some b) ∧ b'.elem = b.elem ∧ b'.view = none ∧ b'.cells.length ≤ b.cells.length ∧ ∀ (M : Mp) us, M.pl.length = H1.length → VRs M b.cells us → VRs (selM M sel) b'.cells (us.take b'.cells.length))
    (hF : ∀ e ∈ F2, ∃ v, F1.get e.1 = some v ∧ ∀ (M : Mp) u, M.pl.length = H1.length → VR M v u → VR (selM M sel) e.2 u) : RowOK P lo n l F H e F2 H2 := by
  intro M a w hR hFR hs hd Q rest hq
  refine h M a w hR hFR hs hd Q rest fun M1 a1 w1 hx1 hR1 hK1 hF1 hs1 hd1 => ?_
  have hA : AtG lo M w n M1 F1 H1 a1 w1 := ⟨hR1, hF1, hs1, hd1, hx1, hK1⟩
  have hl1 := hR1.len
  have hA' := hA.retell (F' := F2) (H' := H2) sel (fun i hi => hk i (by rw [← hR.len]; exact hi)) (fun s hs => by rw [hl1]; exact hsel s hs) hnd hlo hl
    (fun i b' e => let ⟨s, b, a1, a2, a3, a4, a5, a6⟩ := hb i b' e; ⟨s, b, a1, a2, a3, a4, a5, fun us hu => a6 M1 us hl1 hu⟩)
    (fun e he => let ⟨v, a1, a2⟩ := hF e he; ⟨v, a1, fun u hu => a2 M1 u hl1 hu⟩)
  exact hq _ a1 w1 hA'.ext hA'.rel hA'.keep hA'.fr hs1 hd1
/-- Fewer slots told, ghosts in other words: the told blocks as they are. -/
theorem RowOK.slots {P : Program} {lo n : Nat} {l : List Code} {F F1 F2 : Fr} {H H1 : Heap} {e : Exit} (h : RowOK P lo n l F H e F1 H1) (hF : ∀ e ∈ F2, F1.get e.1 = some e.2) : RowOK P lo n l F H e F2 H1 := by
  intro M a w hR hFR hs hd Q rest hq
  refine h M a w hR hFR hs hd Q rest fun M1 a1 w1 hx1 hR1 hK1 hF1 hs1 hd1 => ?_
  refine hq M1 a1 w1 hx1 hR1 hK1 (fun t v e => ?_) hs1 hd1
  have hmem := Fr.get_mem e
  exact hF1 t v (hF (t, v) hmem)
/-- A row run at once. -/
theorem RowOK.of_run {P : Program} {C : Ctx} (hC : CtxOK P C) {m k lo n f : Nat} {p : Nat → Bool} {l : List Code} {F F' : Fr} {H H' : Heap} {e : Exit} (hd : l.all (drawsOK (C.dr f)) = true) (h : runL (C.at_ f) (callK C m) k lo n f p l F H (fun e F H => some (e, F, H)) = some (e, F', H')) : RowOK P lo n l F H e F' H' := by
  obtain ⟨e1, F1, H1, h1, h2⟩ := runL_sound (hC.at_ f) (call := callK C m) (fun lo f args H K r h => callK_sound hC m lo f args H K r h) l hd F H _ h
  cases h1
  exact h2
/-- A call, by its body told in pieces. -/
theorem CallOK.of_code {P : Program} {C : Ctx} (hC : CtxOK P C) {lo f : Nat} {fn : Func} {c : Code} {args l : List Value} {F' : Fr} {H H' : Heap} {e : Exit} (hfn : C.Fn f = some fn) (hc : fn.body = some c) (hle : args.length ≤ fn.ntmps)
    (h : CodeOK P lo fn.ntmps c (enterF 0 args) H e F' H') (he : e = .normal ∨ e = .ret) (hr : resA C.T F' H' fn.results.toList = some l) : CallOK P lo f args H (tupleA l) H' := by
  obtain ⟨hf1, hf2, hf3⟩ := hC.fn f fn hfn
  intro M w rargs hR hv
  refine calls_of_wp hf1 hc ?_
  have hrl : rargs.length ≤ fn.ntmps := by rw [← hv.length]; exact hle
  refine h M _ w hR (enterF_FR hv _) (by simp; omega) rfl _ fun M' a' w' hx hR' hK hF' hs hd => ?_
  obtain ⟨rv, h3, h4⟩ := results_sound hC hR' hF' hr
  rcases he with rfl | rfl
  · exact ⟨hd, rv, h4, M', rv, rfl, h3, hx, hR', hK⟩
  · exact ⟨hd, rv, h4, M', rv, rfl, h3, hx, hR', hK⟩
end Go.Proofs.Ytbcikaoklpekhaa.Ab
