/- Trimmed: Ab14 -/
import Derived.Test.YtgkicojmgokinaaGreatDoorAb13
namespace Go.Proofs.YtgkicojmgokinaaGreatDoor.Ab
open Go Go.RowKit
set_option linter.unusedVariables false
set_option linter.unusedSimpArgs false
theorem enterF_get : ∀ (args : List Value) (k t : Nat) (v : Value), Fr.get (enterF k args) t = some v → k ≤ t ∧ args[t - k]? = some v
  | [], _, _, _, h => by cases h
  | x :: r, k, t, v, h => by
    simp only [enterF, Fr.get] at h
    cases hk : (k == t) with
    | true =>
      rw [hk] at h
      cases h
      have : k = t := by simpa using hk
      subst this
      exact ⟨Nat.le_refl _, by simp⟩
    | false =>
      rw [hk] at h
      obtain ⟨h1, h2⟩ := enterF_get r (k + 1) t v h
      refine ⟨by omega, ?_⟩
      rw [show t - k = (t - (k + 1)) + 1 by omega, List.getElem?_cons_succ]
      exact h2
theorem enterF_FR {M : Mp} {args rargs : List Value} (h : VRs M args rargs) (X : Array Value) : FR M (enterF 0 args) (rargs.toArray ++ X) := by
  intro t v e
  obtain ⟨_, h2⟩ := enterF_get args 0 t v e
  obtain ⟨y, h3, h4⟩ := h.get (t - 0) h2
  simp only [Nat.sub_zero] at h3
  refine ⟨y, ?_, h4⟩
  have : t < rargs.length := (List.getElem?_eq_some_iff.1 h3).1
  rw [Array.getElem?_append_left (by simpa using this)]
  simpa using h3
section
variable {P : Program} {C : Ctx} (hC : CtxOK P C)
def resRun (tmps : Array Value) : ResultVar → Sem Value
  | .tmp t => pure (tmps.getD t undef)
  | .cell a t => do loadVar t (← asAddr (tmps.getD a undef))
include hC in
theorem resA_sound {lo : Nat} {M : Mp} {F : Fr} {H : Heap} {w : World} {tmps : Array Value} (hR : Rel lo M H w) (hF : FR M F tmps) : ∀ (rs : List ResultVar) (l : List Value), resA C.T F H rs = some l →
    ∃ rl, VRs M l rl ∧ (rs.mapM (resRun tmps)).run P w = .ok rl w
  | [], l, h => by cases h; exact ⟨[], .nil, rfl⟩
  | .tmp t :: r, l, h => by
    simp only [resA] at h
    split at h
    · rename_i v hv
      split at h
      · rename_i l' hl
        cases h
        obtain ⟨u, h1, h2⟩ := hF t v hv
        obtain ⟨rl, h3, h4⟩ := resA_sound hR hF r l' hl
        refine ⟨u :: rl, .cons h2 h3, ?_⟩
        have e : tmps.getD t undef = u := by simp [Array.getD_eq_getD_getElem?, h1]
        simp [List.mapM_cons, resRun, e, h4]
      · cases h
    · cases h
  | .cell x t :: r, l, h => by
    simp only [resA] at h
    split at h
    · rename_i v hv
      split at h
      · rename_i y hy
        split at h
        · rename_i l' hl
          cases h
          obtain ⟨u, h1, h2⟩ := hF x v hv
          have e : tmps.getD x undef = u := by simp [Array.getD_eq_getD_getElem?, h1]
          obtain ⟨rl, h3, h4⟩ := resA_sound hR hF r l' hl
          have hFx : FR M [(0, v)] (#[u] : Array Value) := by
            intro k z hz
            simp only [Fr.get] at hz
            cases hk : ((0 : Nat) == k) with
            | true =>
              rw [hk] at hz; cases hz
              have : 0 = k := by simpa using hk
              subst this
              exact ⟨u, rfl, h2⟩
            | false => rw [hk] at hz; cases hz
          obtain ⟨ry, h5, h6⟩ := q_load (P := P) hC.tab hR (F := [(0, v)]) (a := ⟨#[u], []⟩) hFx (X := .tmp 0) (t := t) rfl hy
          have h7 := h6 { (default : Oper) with op := .load t (.tmp 0) } rfl w (Told.refl _ _ _)
          cases h2 with
          | @ptr b off rr s N hM =>
            have h8 : (loadVar t ⟨rr, s + off, none⟩).run P w = .ok ry w := by
              have e9 : Act.eval (⟨#[.pointer (some ⟨rr, s + off, none⟩)], []⟩ : Act) (.tmp 0) = .pointer (some ⟨rr, s + off, none⟩) := rfl
              simp only [execOp, Instr.loadAt, e9, Instr.sureAddr, Sem.run_bind, Sem.run_pure, Result.andThen_ok] at h7
              cases hl : (loadVar t ⟨rr, s + off, none⟩).run P w with
              | ok z w2 => rw [hl] at h7; simp at h7; obtain ⟨rfl, rfl⟩ := h7; rfl
              | halt x w2 => rw [hl] at h7; simp at h7
            exact ⟨ry :: rl, .cons h5 h3, by simp [List.mapM_cons, resRun, e, asAddr, h8, h4]⟩
          | _ => simp [loadA, opq, gs, gp, sp] at hy
        · cases h
      · cases h
    · cases h
theorem tupleA_VR {M : Mp} {l rl : List Value} (h : VRs M l rl) : VR M (tupleA l) (if hs : rl.toArray.size = 1 then rl.toArray[0] else .tuple rl.toArray) := by
  cases h with
  | nil => exact .tuple .nil
  | cons a b =>
    cases b with
    | nil => exact a
    | cons c d => rw [dif_neg (by simp)]; exact .tuple (.cons a (.cons c d))
include hC in
theorem results_sound {lo : Nat} {M : Mp} {F : Fr} {H : Heap} {w : World} {tmps : Array Value} (hR : Rel lo M H w) (hF : FR M F tmps) {fn : Func} {l : List Value} (h : resA C.T F H fn.results.toList = some l) :
    ∃ rv, VR M (tupleA l) rv ∧ (results fn tmps).run P w = .ok rv w := by
  obtain ⟨rl, h1, h2⟩ := resA_sound hC hR hF _ _ h
  refine ⟨_, tupleA_VR h1, ?_⟩
  have e : results fn tmps = (do let vs ← fn.results.mapM (resRun tmps); pure (if hs : vs.size = 1 then vs[0] else .tuple vs)) := by
    unfold results
    first
      | rfl
      | (congr 1; done)
      | (congr 2; funext x; cases x <;> rfl)
  rw [e, Sem.run_bind]
  have h3 : (fn.results.mapM (resRun tmps)).run P w = .ok rl.toArray w := by
    rw [Array.mapM_eq_mapM_toList]
    simp [h2]
  rw [h3]
  rfl
omit hC in
theorem altK_sound {α : Type} {K : Value → Heap → Option α} {r : α} : ∀ (l : List (Bool × Value × Heap)), altK l K = some r → ∃ v H', K v H' = some r ∧ (true, v, H') ∈ l
  | [], h => by cases h
  | (g, v, H') :: l, h => by
    unfold altK at h
    cases g with
    | true => exact ⟨v, H', h, List.mem_cons_self ..⟩
    | false => obtain ⟨v', H2, h1, h2⟩ := altK_sound l h; exact ⟨v', H2, h1, List.mem_cons_of_mem _ h2⟩
include hC in
theorem callK_sound {α : Type} : ∀ (m : Nat), CallsOK P (callK C m : Call α)
  | 0 => fun lo f args H K r h => by cases h
  | m + 1 => fun lo f args H K r h => by
    unfold callK at h
    split at h
    · rename_i l hl
      obtain ⟨v, H', h1, h2⟩ := altK_sound l h
      obtain ⟨h3, h4⟩ := hC.known _ _ _ _ _ _ _ hl h2
      exact ⟨v, H', h1, h3, h4⟩
    · split at h
      · rename_i fn hfn
        obtain ⟨hf1, hf2, hf3⟩ := hC.fn f fn hfn
        split at h
        · rename_i c hc
          cases hl : Nat.ble args.length fn.ntmps with
          | false => rw [hl] at h; cases h
          | true =>
            rw [hl, cond_true] at h
            have hle : args.length ≤ fn.ntmps := by simpa [Nat.ble_eq] using hl
            obtain ⟨e, F', H', h1, h2⟩ := runK_sound (P := P) (hC.at_ f) (callK_sound m) c (hf3 c hc) (enterF 0 args) H _ h
            have fin : ∀ (e : Exit), (e = .normal ∨ e = .ret) → outA C fn F' H' K = some r → CodeOK P lo fn.ntmps c (enterF 0 args) H e F' H' → ∃ v H', K v H' = some r ∧ CallOK P lo f args H v H' ∧ Enters P f := by
              intro e he ho h2
              unfold outA at ho
              split at ho
              · rename_i l hres
                refine ⟨tupleA l, H', ho, fun M w rargs hR hv => ?_, fn, hf1, hf2, by rw [hc]; rfl⟩
                refine calls_of_wp hf1 hc ?_
                have hrl : rargs.length ≤ fn.ntmps := by rw [← hv.length]; exact hle
                refine h2 M _ w hR (enterF_FR hv _) (by simp; omega) rfl _ fun M' a' w' hx hR' hK hF' hs hd => ?_
                obtain ⟨rv, h3, h4⟩ := results_sound hC hR' hF' hres
                rcases he with rfl | rfl
                · exact ⟨hd, rv, h4, M', rv, rfl, h3, hx, hR', hK⟩
                · exact ⟨hd, rv, h4, M', rv, rfl, h3, hx, hR', hK⟩
              · cases ho
            cases e with
            | normal => exact fin .normal (.inl rfl) h1 h2
            | ret => exact fin .ret (.inr rfl) h1 h2
            | _ => cases h1
        · cases h
      · cases h
theorem plains_self {M : Mp} {args : List Value} (h : args.all plain = true) : VRs M args args := plains (fun _ => plain_VR) h
end
end Go.Proofs.YtgkicojmgokinaaGreatDoor.Ab
