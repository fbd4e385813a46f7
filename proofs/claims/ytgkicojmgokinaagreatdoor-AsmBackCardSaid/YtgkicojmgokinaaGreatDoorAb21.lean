/- Several texts as one: Ab20, Ab21. -/
import Derived.Test.YtgkicojmgokinaaGreatDoorAb19
namespace Go.Proofs.YtgkicojmgokinaaGreatDoor.Ab
open Go Go.RowKit
set_option linter.unusedVariables false
set_option linter.unusedSimpArgs false
/-! ### Told anew, where nothing was told at the call -/
theorem AtG.retell0 {lo n : Nat} {M0 M : Mp} {w0 w : World} {F F' : Fr} {H H' : Heap} {a : Act} (h : AtG lo M0 w0 n M F H a w) (h0 : M0.pl = []) (sel : List Nat) (hsel : ∀ s ∈ sel, s < M.pl.length)
    (hnd : ∀ (i j s : Nat) (b b' : Blk), sel[i]? = some s → sel[j]? = some s → H'[i]? = some (some b) → H'[j]? = some (some b') → i = j) (hlo : ∀ (i s : Nat), sel[i]? = some s → lo ≤ i → lo ≤ s) (hl : H'.length = sel.length)
    (hb : ∀ (i : Nat) (b' : Blk), H'[i]? = some (some b') → ∃ s b, sel[i]? = some s ∧ H[s]? = some (some b) ∧ b'.elem = b.elem ∧ b'.view = none ∧ b'.cells.length ≤ b.cells.length ∧ ∀ us, VRs M b.cells us → VRs (selM M sel) b'.cells (us.take b'.cells.length))
    (hF : ∀ e ∈ F', ∃ v, F.get e.1 = some v ∧ ∀ u, VR M v u → VR (selM M sel) e.2 u) : AtG lo M0 w0 n (selM M sel) F' H' a w := by
  refine ⟨⟨by simp [selM, hl], fun i p e => ?_, fun i b' e => ?_, fun i p hi e => ?_, fun i j b1 b2 p q hij e1 e2 e3 e4 hl' => ?_, fun r o ys e => ?_, h.rel.gl⟩, ?_, h.size, h.defers, ⟨⟨fun i p e => ?_, fun r o ys e => h.ext.le.fz r o ys e⟩, fun i p hi e => ?_, fun r o ys e => h.ext.newfz r o ys e⟩, h.keep⟩
  · obtain ⟨s, _, h2⟩ := selM_some e hsel
    exact h.rel.dom s p h2
  · obtain ⟨s, b, h1, h2, h3, h4, h5, h6⟩ := hb i b' e
    obtain ⟨r, o, cs, t, fz, g1, g2, g3, g4, g5, g6⟩ := h.rel.blk s b h2
    refine ⟨r, o, cs, t, fz, by rw [selM_get h1 (hsel s (List.mem_of_getElem? h1))]; exact g1, g2, fun hi => by rw [h3]; exact g3 (hlo i s h1 hi), by omega, ?_, fun p o' hv => by rw [h4] at hv; cases hv⟩
    have := h6 _ g5
    rwa [List.take_take, Nat.min_eq_left h5] at this
  · obtain ⟨s, h1, h2⟩ := selM_some e hsel
    exact h.rel.own s p (hlo i s h1 hi) h2
  · obtain ⟨s, f1, f2⟩ := selM_some e3 hsel
    obtain ⟨s', f3, f4⟩ := selM_some e4 hsel
    obtain ⟨_, c1, k1, k2, _⟩ := hb i b1 e1
    obtain ⟨_, c2, k3, k4, _⟩ := hb j b2 e2
    rw [f1] at k1; cases k1
    rw [f3] at k3; cases k3
    refine h.rel.inj s s' c1 c2 p q (fun hss => hij (hnd i j s b1 b2 f1 (by rw [hss]; exact f3) e1 e2)) k2 k4 f2 f4 ?_
    rcases hl' with hi | hi
    · exact .inl (hlo i s f1 hi)
    · exact .inr (hlo j s' f3 hi)
  · obtain ⟨g1, g2⟩ := h.rel.froz r o ys e
    refine ⟨g1, fun i p hi ep => ?_⟩
    obtain ⟨s, h1, h2⟩ := selM_some ep hsel
    exact g2 s p (hlo i s h1 hi) h2
  · intro t v e
    obtain ⟨v0, h1, h2⟩ := hF (t, v) (Fr.get_mem e)
    obtain ⟨u, h3, h4⟩ := h.fr t v0 h1
    exact ⟨u, h3, h2 u h4⟩
  · rw [h0] at e; simp at e
  · obtain ⟨s, h1, h2⟩ := selM_some e hsel
    exact h.ext.new s p (by rw [h0]; exact Nat.zero_le _) h2
/-- A told value, where all that was made is told as what nobody writes any more. -/
def FzV (H : Heap) (v v' : Value) : Prop :=
  (v' = v ∧ Gh v) ∨ (∃ j m z cells el, 0 < z ∧ v = .slice (some ⟨j, 0, none⟩) m z ∧ H[j]? = some (some ⟨cells, el, none⟩) ∧ m * z ≤ cells.length ∧ (∀ x ∈ cells, Gh x) ∧ v' = gs z (cells.take (m * z)) m) ∨ ∃ z, v = .slice none 0 0 ∧ v' = gs z [] 0
theorem AtG.freeze {lo n : Nat} {M0 M : Mp} {w0 w : World} {F F' : Fr} {H : Heap} {a : Act} (h : AtG lo M0 w0 n M F H a w) (h0 : M0.pl = []) (hz : lo = 0) (hF : ∀ e ∈ F', ∃ v, F.get e.1 = some v ∧ FzV H v e.2) : ∃ M', AtG lo M0 w0 n M' F' [] a w := by
  have new : ∀ (j : Nat) (p : Pl), M.pl[j]? = some p → w0.heap.size ≤ p.1 := fun j p hp => by
    rcases h.ext.new j p (by rw [h0]; exact Nat.zero_le _) hp with h1 | ⟨j', q, _, h2, _⟩
    · exact h1
    · rw [h0] at h2; simp at h2
  refine ⟨⟨[], fun r o ys => M.fz r o ys ∨ (w0.heap.size ≤ r ∧ Froz w r o ys)⟩, rel_fz (fun r o ys e => ?_) (h.rel.gl.mono (fun r o ys e => .inl e) fun _ _ _ _ => rfl) lo, ?_, h.size, h.defers, ⟨⟨fun i p e => ?_, fun r o ys e => .inl (h.ext.le.fz r o ys e)⟩, fun i p hi e => ?_, fun r o ys e => ?_⟩, h.keep⟩
  · rcases e with e | e
    · exact (h.rel.froz r o ys e).1
    · exact e.2
  · intro t v e
    obtain ⟨v0, h1, h2⟩ := hF (t, v) (Fr.get_mem e)
    obtain ⟨u, h3, h4⟩ := h.fr t v0 h1
    refine ⟨u, h3, ?_⟩
    simp only at h2
    rcases h2 with ⟨rfl, hg⟩ | ⟨j, m, z, cells, el, hz, rfl, hb, hm, hg, rfl⟩ | ⟨z, rfl, rfl⟩
    · exact hg.le (M' := ⟨[], fun r o ys => M.fz r o ys ∨ (w0.heap.size ≤ r ∧ Froz w r o ys)⟩) (fun r o ys e => Or.inl e) h4
    · obtain ⟨r', s', cs, t', fz, g1, g2, g3, g4, g5, g6⟩ := h.rel.blk j _ hb
      have hg5 := (Gh.vrs hg g5).le (Le.of_nil (M := ⟨[], fun r o ys => M.fz r o ys ∨ (w0.heap.size ≤ r ∧ Froz w r o ys)⟩) fun r o ys e => Or.inl e)
      simp only at g4 hg5
      have hcl : ((cs.drop s').take cells.length).length = cells.length := by simp; omega
      cases h4 with
      | empt => omega
      | slice hM k1 k2 =>
        rename_i r s N c
        rw [g1] at hM; cases hM
        refine .gsl (ys := (cs.drop s').take cells.length) (r := r') (o := s') (k := 0) (.inr ⟨new j _ g1, cs, t', fz, g2, by rw [hcl]; exact g4, by rw [hcl], by rw [(g3 (by omega)).2]; exact Unfz.zero _ _⟩) (by rw [hcl]; omega) k1 (by simp; omega) ?_
        rw [List.drop_zero]
        exact hg5.take _
    · cases h4; exact .gnil _
  · rw [h0] at e; simp at e
  · simp at e
  · rcases e with e | e
    · exact h.ext.newfz r o ys e
    · exact .inr (.inl e.1)
section
variable {P : Program} {lo n : Nat} {l : List Code} {F F1 F2 : Fr} {H H1 H2 : Heap} {e : Exit}
theorem GoOK.freeze (h : GoOK P 0 0 n l F H e F1 H1) (hF : ∀ e ∈ F2, ∃ v, F1.get e.1 = some v ∧ FzV H1 v e.2) : GoOK P 0 0 n l F H e F2 [] := by
  intro M0 w0 M a w hb ha Q rest hq
  refine h M0 w0 M a w hb ha Q rest fun M1 a1 w1 hA => ?_
  obtain ⟨M', hA'⟩ := hA.freeze (List.eq_nil_of_length_eq_zero hb) rfl hF
  exact hq M' a1 w1 hA'
/-- Told anew: these blocks, or fewer cells of them; a slot may name one of them. -/
theorem GoOK.pick (h : GoOK P lo 0 n l F H e F1 H1) (sel : List Nat) (hsel : ∀ s ∈ sel, s < H1.length) (hlo : lo = 0) (hl : H2.length = sel.length)
    (hnd : ∀ (i j s : Nat) (b b' : Blk), sel[i]? = some s → sel[j]? = some s → H2[i]? = some (some b) → H2[j]? = some (some b') → i = j)
    (hb : ∀ (i : Nat) (b' : Blk), H2[i]? = some (some b') → b'.view = none ∧ (∀ x ∈ b'.cells, Gh x) ∧ ∃ s, sel[i]? = some s ∧ H1[s]? = some (some b'))
    (hF : ∀ e ∈ F2, (F1.get e.1 = some e.2 ∧ Gh e.2) ∨ ∃ i s m z, 0 < z ∧ sel[i]? = some s ∧ F1.get e.1 = some (.slice (some ⟨s, 0, none⟩) m z) ∧ e.2 = .slice (some ⟨i, 0, none⟩) m z) : GoOK P lo 0 n l F H e F2 H2 := by
  intro M0 w0 M a w hbs ha Q rest hq
  refine h M0 w0 M a w hbs ha Q rest fun M1 a1 w1 hA => ?_
  have hl1 := hA.rel.len
  refine hq _ a1 w1 (hA.retell0 (List.eq_nil_of_length_eq_zero hbs) (F' := F2) (H' := H2) sel (fun s hs => by rw [hl1]; exact hsel s hs) hnd (fun _ _ _ _ => by omega) hl (fun i b' e => ?_) (fun x hx => ?_))
  · obtain ⟨h1, h2, s, h3, h4⟩ := hb i b' e
    refine ⟨s, b', h3, h4, rfl, h1, Nat.le_refl _, fun us hu => ?_⟩
    rw [List.take_of_length_le (by rw [← hu.length]; exact Nat.le_refl _)]
    exact (Gh.vrs h2 hu).le (Le.of_nil (M := selM M1 sel) fun _ _ _ h => h)
  · rcases hF x hx with ⟨h1, h2⟩ | ⟨i, s, m, z, hz, h1, h2, h3⟩
    · exact ⟨x.2, h1, fun u hu => tr_gh h2 hu⟩
    · refine ⟨_, h2, fun u hu => ?_⟩
      rw [h3]
      exact tr_slice h1 (by rw [hl1]; exact hsel s (List.mem_of_getElem? h1)) hz hu
/-- Told anew: one block. -/
theorem GoOK.one (h : GoOK P 0 0 n l F H e F1 H1) (j : Nat) {b : Blk} (hj : H1[j]? = some (some b)) (hv : b.view = none) (hg : ∀ x ∈ b.cells, Gh x)
    (hF : ∀ e ∈ F2, (F1.get e.1 = some e.2 ∧ Gh e.2) ∨ ∃ m z, 0 < z ∧ F1.get e.1 = some (.slice (some ⟨j, 0, none⟩) m z) ∧ e.2 = .slice (some ⟨0, 0, none⟩) m z) : GoOK P 0 0 n l F H e F2 [some b] :=
  h.pick [j] (fun s hs => by simp at hs; subst hs; exact (List.getElem?_eq_some_iff.1 hj).1) rfl rfl
    (fun i i' s b1 b2 h1 h2 _ _ => by
      have a1 := (List.getElem?_eq_some_iff.1 h1).1
      have a2 := (List.getElem?_eq_some_iff.1 h2).1
      simp at a1 a2; omega)
    (fun i b' e => by
      cases i with
      | zero => simp at e; subst e; exact ⟨hv, hg, j, rfl, hj⟩
      | succ i => simp at e)
    (fun x hx => by
      rcases hF x hx with h1 | ⟨m, z, hz, h1, h2⟩
      · exact .inl h1
      · exact .inr ⟨0, j, m, z, hz, rfl, h1, h2⟩)
end
end Go.Proofs.YtgkicojmgokinaaGreatDoor.Ab
namespace Go.Proofs.YtgkicojmgokinaaGreatDoor.Ab
open Go Go.RowKit
set_option linter.unusedVariables false
set_option linter.unusedSimpArgs false
/-- These slots are as they were. -/
def Same (ts : List Nat) (a a' : Act) : Prop := ∀ t ∈ ts, a'.tmps[t]? = a.tmps[t]?
theorem Same.refl (ts : List Nat) (a : Act) : Same ts a a := fun _ _ => rfl
theorem Same.trans {ts : List Nat} {a b c : Act} (h : Same ts a b) (k : Same ts b c) : Same ts a c := fun t ht => (k t ht).trans (h t ht)
def notIn (ts : List Nat) : Option Nat → Bool
  | some d => !ts.contains d
  | none => true
theorem put_same {ts : List Nat} {d : Option Nat} (h : notIn ts d = true) (a : Act) (v : Value) : Same ts a (a.put d v) := by
  intro t ht
  cases d with
  | none => rfl
  | some d =>
    have hne : d ≠ t := by
      intro e; subst e
      simp [notIn, ht] at h
    simp only [Act.put]
    rw [Array.getElem?_setIfInBounds_ne hne]
def freeC (ts : List Nat) : Code → Bool
  | .region _ ops draw => !draw && ops.toList.all fun o => notIn ts o.dst
  | .seq a b => freeC ts a && freeC ts b
  | .cond _ a b => freeC ts a && freeC ts b
  | .block _ a => freeC ts a
  | .skip => true
  | .exit _ => true
  | .ret => true
  | .label _ => true
  | _ => false
def CodeS (P : Program) (lo n : Nat) (ts : List Nat) (c : Code) (F : Fr) (H : Heap) (e : Exit) (F' : Fr) (H' : Heap) : Prop :=
  ∀ (M : Mp) (a : Act) (w : World), Rel lo M H w → FR M F a.tmps → a.tmps.size = n → a.defers = [] → ∀ (Q : Exit → Act → World → Prop),
    (∀ M' a' w', Ext lo M w M' → Rel lo M' H' w' → Keep lo M w w' → FR M' F' a'.tmps → a'.tmps.size = n → a'.defers = [] → Same ts a a' → Q e a' w') → c.wp P Q a w
def RowS (P : Program) (lo n : Nat) (ts : List Nat) (l : List Code) (F : Fr) (H : Heap) (e : Exit) (F' : Fr) (H' : Heap) : Prop :=
  ∀ (M : Mp) (a : Act) (w : World), Rel lo M H w → FR M F a.tmps → a.tmps.size = n → a.defers = [] → ∀ (Q : Exit → Act → World → Prop) (rest : List Code),
    (∀ M' a' w', Ext lo M w M' → Rel lo M' H' w' → Keep lo M w w' → FR M' F' a'.tmps → a'.tmps.size = n → a'.defers = [] → Same ts a a' → Exit.then (wpL P Q rest) Q e a' w') → wpL P Q (l ++ rest) a w
section
variable {P : Program} {C : Ctx} (hC : CtxOK P C) {α : Type} {call : Call α} (hcall : CallsOK P call)
include hC hcall
theorem opsK_same {lo n : Nat} {ts : List Nat} {ops : Array Oper} {r : α} : ∀ (l : List Oper), (l.all fun o => notIn ts o.dst) = true → ∀ (F : Fr) (H : Heap) (K : Fr → Heap → Option α), opsK C call lo n ops.toList l F H K = some r →
    ∃ F' H', K F' H' = some r ∧ ∀ (M : Mp) (a : Act) (w : World), Rel lo M H w → FR M F a.tmps → a.tmps.size = n → a.defers = [] → ∀ (Q : Exit → Act → World → Prop) (l' : List Oper),
      (∀ M' a' w', Ext lo M w M' → Rel lo M' H' w' → Keep lo M w w' → FR M' F' a'.tmps → a'.tmps.size = n → a'.defers = [] → Same ts a a' → wpList P ops Q l' a' w') → wpList P ops Q (l ++ l') a w
  | [], _, F, H, K, h => ⟨F, H, h, fun M a w hR hF hs hd Q l' hk => hk M a w (Ext.refl _ _ _) hR (Keep.refl _ _ _) hF hs hd (Same.refl _ _)⟩
  | o :: l, hf, F, H, K, h => by
    simp only [List.all_cons, Bool.and_eq_true] at hf
    unfold opsK at h
    split at h
    · rename_i b hb
      cases b with
      | true =>
        rw [cond_true] at h
        obtain ⟨v, H1, h1, h2⟩ := stepK_sound hC hcall h
        split at h1
        · rename_i F1 hF1
          obtain ⟨F', H', h3, h4⟩ := opsK_same l hf.2 F1 H1 K h1
          refine ⟨F', H', h3, fun M a w hR hF hs hd Q l' hk => ?_⟩
          have hw := wantA_sound (ops := ops) hF hb
          refine wpList_step fun K' hK' => ?_
          rw [if_pos hw]
          refine h2 M a w hR hF o rfl K' Q fun M1 rv w1 hv hx hR1 hK1 => hK' _ _ ?_
          obtain ⟨p1, p2, p3⟩ := putA_sound (hF.le hx.le) hs hF1 hv
          refine h4 M1 _ w1 hR1 p1 p2 (by rw [p3]; exact hd) Q l' fun M2 a2 w2 hx2 hR2 hK2 hF2 hs2 hd2 hsm => hk M2 a2 w2 (hx.trans hK1.size hx2) hR2 (hK1.trans hx hK2) hF2 hs2 hd2 ((put_same hf.1 a rv).trans hsm)
        · cases h1
      | false =>
        rw [cond_false] at h
        split at h
        · rename_i F1 hF1
          obtain ⟨F', H', h3, h4⟩ := opsK_same l hf.2 F1 H K h
          refine ⟨F', H', h3, fun M a w hR hF hs hd Q l' hk => ?_⟩
          have hw := wantA_sound (ops := ops) hF hb
          refine wpList_step fun K' hK' => ?_
          rw [if_neg (by rw [hw]; decide)]
          obtain ⟨p1, p2, p3⟩ := putA_sound (u := undef) hF hs hF1 (plain_VR rfl)
          exact hK' _ _ (h4 M _ w hR p1 p2 (by rw [p3]; exact hd) Q l' fun M2 a2 w2 hx2 hR2 hK2 hF2 hs2 hd2 hsm => hk M2 a2 w2 hx2 hR2 hK2 hF2 hs2 hd2 ((put_same hf.1 a undef).trans hsm))
        · cases h
    · cases h
theorem runK_same {m lo n f : Nat} {p : Nat → Bool} {ts : List Nat} {r : α} : ∀ (c : Code), freeC ts c = true → ∀ (F : Fr) (H : Heap) (K : Exit → Fr → Heap → Option α), runK C call m lo n f p c F H K = some r →
    ∃ e F' H', K e F' H' = some r ∧ CodeS P lo n ts c F H e F' H' := by
  intro c
  induction c with
  | skip => intro _ F H K h; exact ⟨.normal, F, H, h, fun M a w hR hF hs hd Q hk => wp_skip (hk M a w (Ext.refl _ _ _) hR (Keep.refl _ _ _) hF hs hd (Same.refl _ _))⟩
  | region id ops draw =>
    intro hd F H K h
    simp only [freeC, Bool.and_eq_true, Bool.not_eq_true'] at hd
    obtain ⟨rfl, hd⟩ := hd
    unfold runK regionK at h
    rw [cond_false] at h
    obtain ⟨F', H', h1, h2⟩ := opsK_same (P := P) hC hcall (ts := ts) ops.toList hd _ H _ h
    refine ⟨.normal, F', H', h1, fun M a w hR hF hs hdf Q hk => wp_region_list ?_⟩
    have := h2 M a w hR (hF.prune p) hs hdf Q [] fun M1 a1 w1 hx1 hR1 hK1 hF1 hs1 hd1 hsm => wpList_nil (hk M1 a1 w1 hx1 hR1 hK1 hF1 hs1 hd1 hsm)
    rwa [List.append_nil] at this
  | seq x y ihx ihy =>
    intro hd F H K h
    simp only [freeC, Bool.and_eq_true] at hd
    unfold runK at h
    obtain ⟨e, F1, H1, h1, h2⟩ := ihx hd.1 F H _ h
    by_cases he : e = .normal
    · subst he
      obtain ⟨e, F', H', h3, h4⟩ := ihy hd.2 F1 H1 K h1
      refine ⟨e, F', H', h3, fun M a w hR hF hs hdf Q hk => wp_seq ?_⟩
      exact h2 M a w hR hF hs hdf _ fun M1 a1 w1 hx1 hR1 hK1 hF1 hs1 hd1 hsm1 => h4 M1 a1 w1 hR1 hF1 hs1 hd1 Q fun M2 a2 w2 hx2 hR2 hK2 hF2 hs2 hd2 hsm2 => hk M2 a2 w2 (hx1.trans hK1.size hx2) hR2 (hK1.trans hx1 hK2) hF2 hs2 hd2 (hsm1.trans hsm2)
    · refine ⟨e, F1, H1, by cases e <;> first | exact h1 | exact absurd rfl he, fun M a w hR hF hs hdf Q hk => wp_seq ?_⟩
      exact h2 M a w hR hF hs hdf _ fun M1 a1 w1 hx1 hR1 hK1 hF1 hs1 hd1 hsm => by
        have := hk M1 a1 w1 hx1 hR1 hK1 hF1 hs1 hd1 hsm
        cases e <;> first | exact this | exact absurd rfl he
  | cond c x y ihx ihy =>
    intro hd F H K h
    simp only [freeC, Bool.and_eq_true] at hd
    unfold runK at h
    split at h
    · rename_i t ht
      cases t with
      | true =>
        rw [cond_true] at h
        obtain ⟨e, F', H', h1, h2⟩ := ihx hd.1 F H K h
        refine ⟨e, F', H', h1, fun M a w hR hF hs hdf Q hk => ?_⟩
        have hv := arg_sound hF ht
        generalize hz : a.eval c = c' at hv
        cases hv
        exact wp_cond_true hz (h2 M a w hR hF hs hdf Q hk)
      | false =>
        rw [cond_false] at h
        obtain ⟨e, F', H', h1, h2⟩ := ihy hd.2 F H K h
        refine ⟨e, F', H', h1, fun M a w hR hF hs hdf Q hk => ?_⟩
        have hv := arg_sound hF ht
        generalize hz : a.eval c = c' at hv
        cases hv
        exact wp_cond_false hz (h2 M a w hR hF hs hdf Q hk)
    · cases h
  | block id x ih =>
    intro hd F H K h
    simp only [freeC] at hd
    unfold runK at h
    obtain ⟨e, F1, H1, h1, h2⟩ := ih hd F H _ h
    cases e with
    | exit i =>
      simp only at h1
      cases hi : (i == id) with
      | true =>
        rw [hi, cond_true] at h1
        refine ⟨.normal, F1, H1, h1, fun M a w hR hF hs hdf Q hk => wp_block ?_⟩
        refine h2 M a w hR hF hs hdf _ fun M1 a1 w1 hx1 hR1 hK1 hF1 hs1 hd1 hsm => ?_
        have : i = id := by simpa using hi
        simp only [Exit.inBlock, this, if_true]
        exact hk M1 a1 w1 hx1 hR1 hK1 hF1 hs1 hd1 hsm
      | false =>
        rw [hi, cond_false] at h1
        refine ⟨.exit i, F1, H1, h1, fun M a w hR hF hs hdf Q hk => wp_block ?_⟩
        refine h2 M a w hR hF hs hdf _ fun M1 a1 w1 hx1 hR1 hK1 hF1 hs1 hd1 hsm => ?_
        have : ¬ i = id := by simpa using hi
        simp only [Exit.inBlock, this, if_false]
        exact hk M1 a1 w1 hx1 hR1 hK1 hF1 hs1 hd1 hsm
    | normal => exact ⟨_, F1, H1, h1, fun M a w hR hF hs hdf Q hk => wp_block (h2 M a w hR hF hs hdf _ hk)⟩
    | goto l => exact ⟨_, F1, H1, h1, fun M a w hR hF hs hdf Q hk => wp_block (h2 M a w hR hF hs hdf _ hk)⟩
    | ret => exact ⟨_, F1, H1, h1, fun M a w hR hF hs hdf Q hk => wp_block (h2 M a w hR hF hs hdf _ hk)⟩
    | panic c => exact ⟨_, F1, H1, h1, fun M a w hR hF hs hdf Q hk => wp_block (h2 M a w hR hF hs hdf _ hk)⟩
    | outgrown => exact ⟨_, F1, H1, h1, fun M a w hR hF hs hdf Q hk => wp_block (h2 M a w hR hF hs hdf _ hk)⟩
  | exit id => intro _ F H K h; exact ⟨.exit id, F, H, h, fun M a w hR hF hs hd Q hk => wp_exit (hk M a w (Ext.refl _ _ _) hR (Keep.refl _ _ _) hF hs hd (Same.refl _ _))⟩
  | ret => intro _ F H K h; exact ⟨.ret, F, H, h, fun M a w hR hF hs hd Q hk => wp_ret (hk M a w (Ext.refl _ _ _) hR (Keep.refl _ _ _) hF hs hd (Same.refl _ _))⟩
  | label l => intro _ F H K h; exact ⟨.normal, F, H, h, fun M a w hR hF hs hd Q hk => wp_label (hk M a w (Ext.refl _ _ _) hR (Keep.refl _ _ _) hF hs hd (Same.refl _ _))⟩
  | _ => intro hd F H K h; simp [freeC] at hd
theorem runL_same {m lo n f : Nat} {p : Nat → Bool} {ts : List Nat} {r : α} : ∀ (l : List Code), l.all (freeC ts) = true → ∀ (F : Fr) (H : Heap) (K : Exit → Fr → Heap → Option α), runL C call m lo n f p l F H K = some r →
    ∃ e F' H', K e F' H' = some r ∧ RowS P lo n ts l F H e F' H'
  | [], _, F, H, K, h => ⟨.normal, F, H, h, fun M a w hR hF hs hd Q rest hk => hk M a w (Ext.refl _ _ _) hR (Keep.refl _ _ _) hF hs hd (Same.refl _ _)⟩
  | c :: l, hd, F, H, K, h => by
    simp only [List.all_cons, Bool.and_eq_true] at hd
    unfold runL at h
    obtain ⟨e, F1, H1, h1, h2⟩ := runK_same hC hcall c hd.1 F H _ h
    by_cases he : e = .normal
    · subst he
      obtain ⟨e, F', H', h3, h4⟩ := runL_same l hd.2 F1 H1 K h1
      refine ⟨e, F', H', h3, fun M a w hR hF hs hdf Q rest hk => ?_⟩
      refine h2 M a w hR hF hs hdf _ fun M1 a1 w1 hx1 hR1 hK1 hF1 hs1 hd1 hsm1 => ?_
      exact h4 M1 a1 w1 hR1 hF1 hs1 hd1 Q rest fun M2 a2 w2 hx2 hR2 hK2 hF2 hs2 hd2 hsm2 => hk M2 a2 w2 (hx1.trans hK1.size hx2) hR2 (hK1.trans hx1 hK2) hF2 hs2 hd2 (hsm1.trans hsm2)
    · refine ⟨e, F1, H1, by cases e <;> first | exact h1 | exact absurd rfl he, fun M a w hR hF hs hdf Q rest hk => ?_⟩
      refine h2 M a w hR hF hs hdf _ fun M1 a1 w1 hx1 hR1 hK1 hF1 hs1 hd1 hsm => ?_
      have := hk M1 a1 w1 hx1 hR1 hK1 hF1 hs1 hd1 hsm
      cases e <;> first | exact this | exact absurd rfl he
end
end Go.Proofs.YtgkicojmgokinaaGreatDoor.Ab
