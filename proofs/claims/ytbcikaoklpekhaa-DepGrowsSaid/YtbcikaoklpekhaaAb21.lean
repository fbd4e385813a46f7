/- The abstract run, twenty-first part: slots that a piece does not assign are as they were. -/
import Derived.Test.YtbcikaoklpekhaaAb20
namespace Go.Proofs.Ytbcikaoklpekhaa.Ab
open Go Go.RowKit
set_option linter.unusedVariables false
set_option linter.unusedSimpArgs false
/-- These slots are as they were. -/
def Same (ts : List Nat) (a a' : Act) : Prop := ∀ t ∈ ts, a'.tmps[t]? = a.tmps[t]?
theorem Same.refl (ts : List Nat) (a : Act) : Same ts a a := fun _ _ => rfl
theorem Same.trans {ts : List Nat} {a b c : Act} (h : Same ts a b) (k : Same ts b c) : Same ts a c := fun t ht => (k t ht).trans (h t ht)
def notIn (ts : List Nat) : Option Nat → Bool
  | some d => !ts.contains d
  | none => true
theorem put_same {ts : List Nat} {d : Option Nat} (h : notIn ts d = true) (a : Act) (v : Value) : Same ts a (a.put d v) := by
  intro t ht
  cases d with
  | none => rfl
  | some d =>
    have hne : d ≠ t := by
      intro e; subst e
      simp [notIn, ht] at h
    simp only [Act.put]
    rw [Array.getElem?_setIfInBounds_ne hne]
def freeC (ts : List Nat) : Code → Bool
  | .region _ ops draw => !draw && ops.toList.all fun o => notIn ts o.dst
  | .seq a b => freeC ts a && freeC ts b
  | .cond _ a b => freeC ts a && freeC ts b
  | .block _ a => freeC ts a
  | .skip => true
  | .exit _ => true
  | .ret => true
  | .label _ => true
  | _ => false
def CodeS (P : Program) (lo n : Nat) (ts : List Nat) (c : Code) (F : Fr) (H : Heap) (e : Exit) (F' : Fr) (H' : Heap) : Prop :=
  ∀ (M : Mp) (a : Act) (w : World), Rel lo M H w → FR M F a.tmps → a.tmps.size = n → a.defers = [] → ∀ (Q : Exit → Act → World → Prop),
    (∀ M' a' w', Ext lo M w M' → Rel lo M' H' w' → Keep lo M w w' → FR M' F' a'.tmps → a'.tmps.size = n → a'.defers = [] → Same ts a a' → Q e a' w') → c.wp P Q a w
def RowS (P : Program) (lo n : Nat) (ts : List Nat) (l : List Code) (F : Fr) (H : Heap) (e : Exit) (F' : Fr) (H' : Heap) : Prop :=
  ∀ (M : Mp) (a : Act) (w : World), Rel lo M H w → FR M F a.tmps → a.tmps.size = n → a.defers = [] → ∀ (Q : Exit → Act → World → Prop) (rest : List Code),
    (∀ M' a' w', Ext lo M w M' → Rel lo M' H' w' → Keep lo M w w' → FR M' F' a'.tmps → a'.tmps.size = n → a'.defers = [] → Same ts a a' → Exit.then (wpL P Q rest) Q e a' w') → wpL P Q (l ++ rest) a w
section
variable {P : Program} {C : Ctx} (hC : CtxOK P C) {α : Type} {call : Call α} (hcall : CallsOK P call)
include hC hcall
theorem opsK_same {lo n : Nat} {ts : List Nat} {ops : Array Oper} {r : α} : ∀ (l : List Oper), (l.all fun o => notIn ts o.dst) = true → ∀ (F : Fr) (H : Heap) (K : Fr → Heap → Option α), opsK C call lo n ops.toList l F H K = some r →
    ∃ F' H', K F' H' = some r ∧ ∀ (M : Mp) (a : Act) (w : World), Rel lo M H w → FR M F a.tmps → a.tmps.size = n → a.defers = [] → ∀ (Q : Exit → Act → World → Prop) (l' : List Oper),
      (∀ M' a' w', Ext lo M w M' → Rel lo M' H' w' → Keep lo M w w' → FR M' F' a'.tmps → a'.tmps.size = n → a'.defers = [] → Same ts a a' → wpList P ops Q l' a' w') → wpList P ops Q (l ++ l') a w
  | [], _, F, H, K, h => ⟨F, H, h, fun M a w hR hF hs hd Q l' hk => hk M a w (Ext.refl _ _ _) hR (Keep.refl _ _ _) hF hs hd (Same.refl _ _)⟩
  | o :: l, hf, F, H, K, h => by
    simp only [List.all_cons, Bool.and_eq_true] at hf
    unfold opsK at h
    split at h
    · rename_i b hb
      cases b with
      | true =>
        rw [cond_true] at h
        obtain ⟨v, H1, h1, h2⟩ := stepK_sound hC hcall h
        split at h1
        · rename_i F1 hF1
          obtain ⟨F', H', h3, h4⟩ := opsK_same l hf.2 F1 H1 K h1
          refine ⟨F', H', h3, fun M a w hR hF hs hd Q l' hk => ?_⟩
          have hw := wantA_sound (ops := ops) hF hb
          refine wpList_step fun K' hK' => ?_
          rw [if_pos hw]
          refine h2 M a w hR hF o rfl K' Q fun M1 rv w1 hv hx hR1 hK1 => hK' _ _ ?_
          obtain ⟨p1, p2, p3⟩ := putA_sound (hF.le hx.le) hs hF1 hv
          refine h4 M1 _ w1 hR1 p1 p2 (by rw [p3]; exact hd) Q l' fun M2 a2 w2 hx2 hR2 hK2 hF2 hs2 hd2 hsm => hk M2 a2 w2 (hx.trans hK1.size hx2) hR2 (hK1.trans hx hK2) hF2 hs2 hd2 ((put_same hf.1 a rv).trans hsm)
        · cases h1
      | false =>
        rw [cond_false] at h
        split at h
        · rename_i F1 hF1
          obtain ⟨F', H', h3, h4⟩ := opsK_same l hf.2 F1 H K h
          refine ⟨F', H', h3, fun M a w hR hF hs hd Q l' hk => ?_⟩
          have hw := wantA_sound (ops := ops) hF hb
          refine wpList_step fun K' hK' => ?_
          rw [if_neg (by rw [hw]; decide)]
          obtain ⟨p1, p2, p3⟩ := putA_sound (u := undef) hF hs hF1 (plain_VR rfl)
          exact hK' _ _ (h4 M _ w hR p1 p2 (by rw [p3]; exact hd) Q l' fun M2 a2 w2 hx2 hR2 hK2 hF2 hs2 hd2 hsm => hk M2 a2 w2 hx2 hR2 hK2 hF2 hs2 hd2 ((put_same hf.1 a undef).trans hsm))
        · cases h
    · cases h
theorem runK_same {m lo n f : Nat} {p : Nat → Bool} {ts : List Nat} {r : α} : ∀ (c : Code), freeC ts c = true → ∀ (F : Fr) (H : Heap) (K : Exit → Fr → Heap → Option α), runK C call m lo n f p c F H K = some r →
    ∃ e F' H', K e F' H' = some r ∧ CodeS P lo n ts c F H e F' H' := by
  intro c
  induction c with
  | skip => intro _ F H K h; exact ⟨.normal, F, H, h, fun M a w hR hF hs hd Q hk => wp_skip (hk M a w (Ext.refl _ _ _) hR (Keep.refl _ _ _) hF hs hd (Same.refl _ _))⟩
  | region id ops draw =>
    intro hd F H K h
    simp only [freeC, Bool.and_eq_true, Bool.not_eq_true'] at hd
    obtain ⟨rfl, hd⟩ := hd
    unfold runK regionK at h
    rw [cond_false] at h
    obtain ⟨F', H', h1, h2⟩ := opsK_same (P := P) hC hcall (ts := ts) ops.toList hd _ H _ h
    refine ⟨.normal, F', H', h1, fun M a w hR hF hs hdf Q hk => wp_region_list ?_⟩
    have := h2 M a w hR (hF.prune p) hs hdf Q [] fun M1 a1 w1 hx1 hR1 hK1 hF1 hs1 hd1 hsm => wpList_nil (hk M1 a1 w1 hx1 hR1 hK1 hF1 hs1 hd1 hsm)
    rwa [List.append_nil] at this
  | seq x y ihx ihy =>
    intro hd F H K h
    simp only [freeC, Bool.and_eq_true] at hd
    unfold runK at h
    obtain ⟨e, F1, H1, h1, h2⟩ := ihx hd.1 F H _ h
    by_cases he : e = .normal
    · subst he
      obtain ⟨e, F', H', h3, h4⟩ := ihy hd.2 F1 H1 K h1
      refine ⟨e, F', H', h3, fun M a w hR hF hs hdf Q hk => wp_seq ?_⟩
      exact h2 M a w hR hF hs hdf _ fun M1 a1 w1 hx1 hR1 hK1 hF1 hs1 hd1 hsm1 => h4 M1 a1 w1 hR1 hF1 hs1 hd1 Q fun M2 a2 w2 hx2 hR2 hK2 hF2 hs2 hd2 hsm2 => hk M2 a2 w2 (hx1.trans hK1.size hx2) hR2 (hK1.trans hx1 hK2) hF2 hs2 hd2 (hsm1.trans hsm2)
    · refine ⟨e, F1, H1, by cases e <;> first | exact h1 | exact absurd rfl he, fun M a w hR hF hs hdf Q hk => wp_seq ?_⟩
      exact h2 M a w hR hF hs hdf _ fun M1 a1 w1 hx1 hR1 hK1 hF1 hs1 hd1 hsm => by
        have := hk M1 a1 w1 hx1 hR1 hK1 hF1 hs1 hd1 hsm
        cases e <;> first | exact this | exact absurd rfl he
  | cond c x y ihx ihy =>
    intro hd F H K h
    simp only [freeC, Bool.and_eq_true] at hd
    unfold runK at h
    split at h
    · rename_i t ht
      cases t with
      | true =>
        rw [cond_true] at h
        obtain ⟨e, F', H', h1, h2⟩ := ihx hd.1 F H K h
        refine ⟨e, F', H', h1, fun M a w hR hF hs hdf Q hk => ?_⟩
        have hv := arg_sound hF ht
        generalize hz : a.eval c = c' at hv
        cases hv
        exact wp_cond_true hz (h2 M a w hR hF hs hdf Q hk)
      | false =>
        rw [cond_false] at h
        obtain ⟨e, F', H', h1, h2⟩ := ihy hd.2 F H K h
        refine ⟨e, F', H', h1, fun M a w hR hF hs hdf Q hk => ?_⟩
        have hv := arg_sound hF ht
        generalize hz : a.eval c = c' at hv
        cases hv
        exact wp_cond_false hz (h2 M a w hR hF hs hdf Q hk)
    · cases h
  | block id x ih =>
    intro hd F H K h
    simp only [freeC] at hd
    unfold runK at h
    obtain ⟨e, F1, H1, h1, h2⟩ := ih hd F H _ h
    cases e with
    | exit i =>
      simp only at h1
      cases hi : (i == id) with
      | true =>
        rw [hi, cond_true] at h1
        refine ⟨.normal, F1, H1, h1, fun M a w hR hF hs hdf Q hk => wp_block ?_⟩
        refine h2 M a w hR hF hs hdf _ fun M1 a1 w1 hx1 hR1 hK1 hF1 hs1 hd1 hsm => ?_
        have : i = id := by simpa using hi
        simp only [Exit.inBlock, this, if_true]
        exact hk M1 a1 w1 hx1 hR1 hK1 hF1 hs1 hd1 hsm
      | false =>
        rw [hi, cond_false] at h1
        refine ⟨.exit i, F1, H1, h1, fun M a w hR hF hs hdf Q hk => wp_block ?_⟩
        refine h2 M a w hR hF hs hdf _ fun M1 a1 w1 hx1 hR1 hK1 hF1 hs1 hd1 hsm => ?_
        have : ¬ i = id := by simpa using hi
        simp only [Exit.inBlock, this, if_false]
        exact hk M1 a1 w1 hx1 hR1 hK1 hF1 hs1 hd1 hsm
    | normal => exact ⟨_, F1, H1, h1, fun M a w hR hF hs hdf Q hk => wp_block (h2 M a w hR hF hs hdf _ hk)⟩
    | goto l => exact ⟨_, F1, H1, h1, fun M a w hR hF hs hdf Q hk => wp_block (h2 M a w hR hF hs hdf _ hk)⟩
    | ret => exact ⟨_, F1, H1, h1, fun M a w hR hF hs hdf Q hk => wp_block (h2 M a w hR hF hs hdf _ hk)⟩
    | panic c => exact ⟨_, F1, H1, h1, fun M a w hR hF hs hdf Q hk => wp_block (h2 M a w hR hF hs hdf _ hk)⟩
    | outgrown => exact ⟨_, F1, H1, h1, fun M a w hR hF hs hdf Q hk => wp_block (h2 M a w hR hF hs hdf _ hk)⟩
  | exit id => intro _ F H K h; exact ⟨.exit id, F, H, h, fun M a w hR hF hs hd Q hk => wp_exit (hk M a w (Ext.refl _ _ _) hR (Keep.refl _ _ _) hF hs hd (Same.refl _ _))⟩
  | ret => intro _ F H K h; exact ⟨.ret, F, H, h, fun M a w hR hF hs hd Q hk => wp_ret (hk M a w (Ext.refl _ _ _) hR (Keep.refl _ _ _) hF hs hd (Same.refl _ _))⟩
  | label l => intro _ F H K h; exact ⟨.normal, F, H, h, fun M a w hR hF hs hd Q hk => wp_label (hk M a w (Ext.refl _ _ _) hR (Keep.refl _ _ _) hF hs hd (Same.refl _ _))⟩
  | _ => intro hd F H K h; simp [freeC] at hd
theorem runL_same {m lo n f : Nat} {p : Nat → Bool} {ts : List Nat} {r : α} : ∀ (l : List Code), l.all (freeC ts) = true → ∀ (F : Fr) (H : Heap) (K : Exit → Fr → Heap → Option α), runL C call m lo n f p l F H K = some r →
    ∃ e F' H', K e F' H' = some r ∧ RowS P lo n ts l F H e F' H'
  | [], _, F, H, K, h => ⟨.normal, F, H, h, fun M a w hR hF hs hd Q rest hk => hk M a w (Ext.refl _ _ _) hR (Keep.refl _ _ _) hF hs hd (Same.refl _ _)⟩
  | c :: l, hd, F, H, K, h => by
    simp only [List.all_cons, Bool.and_eq_true] at hd
    unfold runL at h
    obtain ⟨e, F1, H1, h1, h2⟩ := runK_same hC hcall c hd.1 F H _ h
    by_cases he : e = .normal
    · subst he
      obtain ⟨e, F', H', h3, h4⟩ := runL_same l hd.2 F1 H1 K h1
      refine ⟨e, F', H', h3, fun M a w hR hF hs hdf Q rest hk => ?_⟩
      refine h2 M a w hR hF hs hdf _ fun M1 a1 w1 hx1 hR1 hK1 hF1 hs1 hd1 hsm1 => ?_
      exact h4 M1 a1 w1 hR1 hF1 hs1 hd1 Q rest fun M2 a2 w2 hx2 hR2 hK2 hF2 hs2 hd2 hsm2 => hk M2 a2 w2 (hx1.trans hK1.size hx2) hR2 (hK1.trans hx1 hK2) hF2 hs2 hd2 (hsm1.trans hsm2)
    · refine ⟨e, F1, H1, by cases e <;> first | exact h1 | exact absurd rfl he, fun M a w hR hF hs hdf Q rest hk => ?_⟩
      refine h2 M a w hR hF hs hdf _ fun M1 a1 w1 hx1 hR1 hK1 hF1 hs1 hd1 hsm => ?_
      have := hk M1 a1 w1 hx1 hR1 hK1 hF1 hs1 hd1 hsm
      cases e <;> first | exact this | exact absurd rfl he
end
end Go.Proofs.Ytbcikaoklpekhaa.Ab
