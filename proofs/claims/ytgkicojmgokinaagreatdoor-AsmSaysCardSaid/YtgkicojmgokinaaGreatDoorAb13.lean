/- Trimmed: Ab13 -/
import Derived.Test.YtgkicojmgokinaaGreatDoorAb12
import Derived.LoopN
namespace Go.Proofs.YtgkicojmgokinaaGreatDoor.Ab
open Go Go.RowKit
set_option linter.unusedVariables false
set_option linter.unusedSimpArgs false
theorem prune_none {p : Nat → Bool} {t : Nat} (hp : p t = false) : ∀ (F : Fr), Fr.get (prune p F) t = none
  | [] => rfl
  | (k, x) :: r => by
    unfold prune
    cases hk : p k with
    | true =>
      have : (k == t) = false := by
        cases h : (k == t) with
        | false => rfl
        | true => have : k = t := by simpa using h
                  subst this; rw [hk] at hp; cases hp
      simp only [cond_true, Fr.get, this, cond_false]
      exact prune_none hp r
    | false => simpa using prune_none hp r
theorem prune_get {p : Nat → Bool} : ∀ {F : Fr} {t : Nat} {v : Value}, Fr.get (prune p F) t = some v → Fr.get F t = some v
  | [], _, _, h => h
  | (k, x) :: r, t, v, h => by
    unfold prune at h
    simp only [Fr.get]
    cases hb : p k with
    | true =>
      rw [hb] at h
      simp only [cond_true, Fr.get] at h
      cases hk : (k == t) with
      | true => rw [hk] at h; exact h
      | false => rw [hk] at h; exact prune_get (F := r) h
    | false =>
      rw [hb] at h
      simp only [cond_false] at h
      cases hk : (k == t) with
      | true =>
        have hkt : k = t := by simpa using hk
        subst hkt
        rw [prune_none hb] at h; cases h
      | false => exact prune_get (F := r) h
theorem FR.prune {M : Mp} {F : Fr} {tmps : Array Value} (h : FR M F tmps) (p : Nat → Bool) : FR M (prune p F) tmps := fun t v e => h t v (prune_get e)
theorem maskH_get {lo : Nat} {H : Heap} {i : Nat} {b : Blk} (h : (maskH lo H)[i]? = some (some b)) : i < lo ∧ H[i]? = some (some b) := by
  unfold maskH at h
  rcases Nat.lt_or_ge i (H.take lo).length with hi | hi
  · rw [List.getElem?_append_left hi] at h
    have hi' : i < lo := by simp at hi; omega
    rw [List.getElem?_take_of_lt hi'] at h
    exact ⟨hi', h⟩
  · rw [List.getElem?_append_right hi] at h
    obtain ⟨h1, h2⟩ := List.getElem?_eq_some_iff.1 h
    rw [List.getElem_replicate] at h2; cases h2
theorem Rel.mask {lo : Nat} {M : Mp} {H : Heap} {w : World} (h : Rel lo M H w) : Rel lo M (maskH lo H) w :=
  ⟨by rw [h.len]; unfold maskH; simp; omega, h.dom, fun k b e => h.blk k b (maskH_get e).2, h.own, fun k j b1 b2 p q hkj hb1 hb2 hp hq hk => h.inj k j b1 b2 p q hkj (maskH_get hb1).2 (maskH_get hb2).2 hp hq hk, h.froz, h.gl⟩
theorem Rel.told_mask {lo : Nat} {M : Mp} {H : Heap} {w w' : World} (h : Rel lo M H w) (hall : (H.drop lo).all Option.isSome = true) (hK : Keep lo M w w') : Told M (maskH lo H) w w' := by
  refine ⟨fun i b p e hM => ?_, fun r o ys e => hK.block r (h.froz r o ys e).1.lt (h.froz r o ys e).2⟩
  obtain ⟨hi, e⟩ := maskH_get e
  refine hK.block p.1 (h.dom i p hM) fun j q hj hq hqp => ?_
  have hjl : j < H.length := by rw [← h.len]; exact (List.getElem?_eq_some_iff.1 hq).1
  have hs : (H[j]).isSome = true := by
    refine List.all_eq_true.1 hall _ ?_
    rw [List.mem_iff_getElem]
    exact ⟨j - lo, by simp; omega, by simp [Nat.add_sub_cancel' hj]⟩
  obtain ⟨x, hx⟩ := Option.isSome_iff_exists.1 hs
  exact h.inj j i x b q p (by omega) (by rw [List.getElem?_eq_getElem hjl, hx]) e hq hM (.inl hj) hqp
def CodeOK (P : Program) (lo n : Nat) (c : Code) (F : Fr) (H : Heap) (e : Exit) (F' : Fr) (H' : Heap) : Prop :=
  ∀ (M : Mp) (a : Act) (w : World), Rel lo M H w → FR M F a.tmps → a.tmps.size = n → a.defers = [] → ∀ (Q : Exit → Act → World → Prop),
    (∀ M' a' w', Ext lo M w M' → Rel lo M' H' w' → Keep lo M w w' → FR M' F' a'.tmps → a'.tmps.size = n → a'.defers = [] → Q e a' w') → c.wp P Q a w
section
variable {P : Program} {C : Ctx} (hC : CtxOK P C) {α : Type} {call : Call α} (hcall : CallsOK P call)
include hC hcall
theorem regionK_sound {lo n id : Nat} {tail : Draw} {ops : Array Oper} {draw : Bool} {F : Fr} {H : Heap} {K : Fr → Heap → Option α} {r : α}
    (hd : (!draw || drawOK tail ops) = true) (h : regionK C call lo n tail ops.toList draw F H K = some r) :
    ∃ F' H', K F' H' = some r ∧ CodeOK P lo n (.region id ops draw) F H .normal F' H' := by
  unfold regionK at h
  cases draw with
  | false =>
    rw [cond_false] at h
    obtain ⟨F', H', h1, h2⟩ := opsK_sound (P := P) hC hcall ops.toList F H K h
    exact ⟨F', H', h1, fun M a w hR hF hs hdf Q hk => wp_region_list (h2 M a w hR hF hs hdf Q hk)⟩
  | true =>
    rw [cond_true] at h
    simp only [Bool.not_true, Bool.false_or, drawOK] at hd
    cases tail with
    | quiet =>
      simp only at h
      obtain ⟨F', h1, h2⟩ := quietK_sound (P := P) hC hcall ops.toList F _ h
      refine ⟨F', H, h1, fun M a w hR hF hs hdf Q hk => ?_⟩
      have hR1 : Rel lo M H { w with drawn := w.drawn + 1 } := hR.drew _
      refine wp_region_quiet hC.mix hd (C := fun w' => Below w.heap.size { w with drawn := w.drawn + 1 } w') (Below.refl _ _) ?_
      refine h2 M a _ hR1 hF hs hdf _ fun a' f1 f2 f3 w' hw' => ?_
      exact hk M a' w' (Ext.refl _ _ _) (hR1.below hw') ⟨hw'.os, hw'.tape, hw'.output, hw'.size, fun k hk _ => hw'.block k hk⟩ f1 f2 f3
    | tail s =>
      simp only at h
      obtain ⟨F1, h1, h2⟩ := quietK_sound (P := P) hC hcall (ops.toList.take s) F _ h
      obtain ⟨F', H', h3, h4⟩ := opsK_sound (P := P) hC hcall (ops.toList.drop s) F1 H K h1
      refine ⟨F', H', h3, fun M a w hR hF hs hdf Q hk => ?_⟩
      have hR1 : Rel lo M H { w with drawn := w.drawn + 1 } := hR.drew _
      have key : (Code.region id ops.toList.toArray true).wp P Q a w := by
        refine wp_region_split s hC.mix (by simpa using hd) (C := fun w' => Below w.heap.size { w with drawn := w.drawn + 1 } w') (Below.refl _ _) ?_
        have := h2 M a _ hR1 hF hs hdf (fun a' => ∀ w', Below w.heap.size { w with drawn := w.drawn + 1 } w' → wpList P ops Q (ops.toList.drop s) a' w') fun a' f1 f2 f3 w' hw' => by
          have hk0 : Keep lo M w w' := ⟨hw'.os, hw'.tape, hw'.output, hw'.size, fun k hk _ => hw'.block k hk⟩
          exact h4 M a' w' (hR1.below hw') f1 f2 f3 Q fun M2 a2 w2 hx2 hR2 hK2 hF2 hs2 hd2 => hk M2 a2 w2 ((Ext.refl lo M w).trans hw'.size hx2) hR2 (hk0.trans (Ext.refl _ _ _) hK2) hF2 hs2 hd2
        simpa using this
      simpa using key
    | sched hl t =>
      simp only at h
      cases hall : (H.drop lo).all Option.isSome with
      | false => rw [hall] at h; cases h
      | true =>
      rw [hall, cond_true] at h
      simp only [Bool.and_eq_true] at hd
      obtain ⟨hsel, hlen, hB⟩ := hd
      obtain ⟨F1, h1, h2⟩ := headK_sound (P := P) hC (lo := lo) hl F _ h
      obtain ⟨F', H', h3, h4⟩ := tailK_sound (P := P) hC hcall t F1 H K h1
      refine ⟨F', H', h3, fun M a w hR hF hs hdf Q hk => ?_⟩
      have hR1 : Rel lo M H { w with drawn := w.drawn + 1 } := hR.drew _
      refine wp_mono (Q := fun e a w => e = .normal ∧ Q .normal a w) ?_ fun e a' w' he => by obtain ⟨rfl, h⟩ := he; exact h
      refine wp_region_sched (C := fun w' => Told M (maskH lo H) { w with drawn := w.drawn + 1 } w') hC.mix hsel (Nat.eq_of_beq_eq_true hlen) hB (fun o v c a' w' h => by cases h.1) ?_
      refine h2 M a _ hR1.mask hF hs hdf _ fun a' f1 f2 f3 => ?_
      refine h4 M a' _ hR1 f1 f2 f3 _ (fun w' hK => hR1.told_mask hall hK) _ fun M2 a2 w2 hx2 hR2 hK2 hF2 hs2 hd2 => ⟨rfl, hk M2 a2 w2 ⟨hx2.le, hx2.new, hx2.newfz⟩ hR2 ⟨hK2.os, hK2.tape, hK2.output, hK2.size, hK2.block⟩ hF2 hs2 hd2⟩
    | mix s hl t =>
      simp only at h
      cases hall : (H.drop lo).all Option.isSome with
      | false => rw [hall] at h; cases h
      | true =>
      rw [hall, cond_true] at h
      obtain ⟨F0, h01, h02⟩ := quietK_sound (P := P) hC hcall (ops.toList.take s) F _ h
      obtain ⟨F1, h1, h2⟩ := headK_sound (P := P) hC (lo := lo) hl F0 _ h01
      obtain ⟨F', H', h3, h4⟩ := tailK_sound (P := P) hC hcall t F1 H K h1
      refine ⟨F', H', h3, fun M a w hR hF hs hdf Q hk => ?_⟩
      have hR1 : Rel lo M H { w with drawn := w.drawn + 1 } := hR.drew _
      refine wp_mono (Q := fun e a w => e = .normal ∧ Q .normal a w) ?_ fun e a' w' he => by obtain ⟨rfl, h⟩ := he; exact h
      have key : (Code.region id ops.toList.toArray true).wp P (fun e a w => e = .normal ∧ Q .normal a w) a w := by
        refine wp_region_mix s (D := fun w1 w' => Told M (maskH lo H) w1 w') hC.mix (by simpa using hd) (C := fun w' => Below w.heap.size { w with drawn := w.drawn + 1 } w') (Below.refl _ _) (fun o v c a' w' h => by cases h.1) ?_
        have := h02 M a _ hR1 hF hs hdf (fun a' => ∀ w', Below w.heap.size { w with drawn := w.drawn + 1 } w' → wpHeadC P ops (fun w2 => Told M (maskH lo H) w' w2) (fun a2 => wpSeqC P ops (fun w2 => Told M (maskH lo H) w' w2) (fun e a w => e = .normal ∧ Q .normal a w) t a2 w') hl a') fun a' f1 f2 f3 w' hw' => by
          have hR2 := hR1.below hw'
          have hk0 : Keep lo M w w' := ⟨hw'.os, hw'.tape, hw'.output, hw'.size, fun k hk _ => hw'.block k hk⟩
          refine h2 M a' w' hR2.mask f1 f2 f3 _ fun a2 g1 g2 g3 => ?_
          exact h4 M a2 w' hR2 g1 g2 g3 _ (fun w2 hK => hR2.told_mask hall hK) _ fun M2 a3 w3 hx3 hR3 hK3 hF3 hs3 hd3 => ⟨rfl, hk M2 a3 w3 ((Ext.refl lo M w).trans hw'.size hx3) hR3 (hk0.trans (Ext.refl _ _ _) hK3) hF3 hs3 hd3⟩
        simpa using this
      simpa using key
    | two rl hl t1 t2 =>
      simp only at h
      obtain ⟨Fs, h00, hs0⟩ := slotK_sound (P := P) rl F _ h
      obtain ⟨F0, h01, h02⟩ := headK_sound (P := P) hC (lo := lo) hl Fs _ h00
      obtain ⟨F1, H1, h1, h2⟩ := tailU_sound (P := P) hC hcall t1 F0 H _ h01
      obtain ⟨F', H', h3, h4⟩ := tailK_sound (P := P) hC hcall t2 F1 H1 K h1
      refine ⟨F', H', h3, fun M a w hR hF hs hdf Q hk => ?_⟩
      have hR1 : Rel lo M H { w with drawn := w.drawn + 1 } := hR.drew _
      refine wp_mono (Q := fun e a w => e = .normal ∧ Q .normal a w) ?_ fun e a' w' he => by obtain ⟨rfl, h⟩ := he; exact h
      refine wp_region_two (C := fun w' => Told M H { w with drawn := w.drawn + 1 } w') hC.mix hd (fun o v c a' w' h => by cases h.1) ?_
      refine hs0 M a hF hs hdf _ fun a0 e1 e2 e3 => ?_
      refine h02 M a0 _ hR1 e1 e2 e3 _ fun a1 f1 f2 f3 => ?_
      refine h2 M a1 _ hR1 f1 f2 f3 _ (fun w' hb => Told.of_below hR1 hb) _ _ fun M1 a2 w1 hx1 hR2 hB1 g1 g2 g3 => ?_
      have hk0 : Keep lo M w w1 := ⟨hB1.os, hB1.tape, hB1.output, hB1.size, fun k hk _ => hB1.block k hk⟩
      exact wpSeq2_of_C (Cl := fun _ => True) _ _ _ (h4 M1 a2 w1 hR2 g1 g2 g3 _ (fun _ _ => trivial) _ fun M2 a3 w2 hx2 hR3 hK2 hF3 hs3 hd3 =>
        ⟨rfl, hk M2 a3 w2 (Ext.trans ⟨hx1.le, hx1.new, hx1.newfz⟩ hB1.size hx2) hR3 (hk0.trans ⟨hx1.le, hx1.new, hx1.newfz⟩ hK2) hF3 hs3 hd3⟩)
    | one qs e t2 =>
      simp only at h
      obtain ⟨F1, h1, h2⟩ := quietL_sound (P := P) hC hcall (lo := lo) qs F _ h
      split at h1
      · rename_i dst t ty pos af ho
        have ho' : ops[e]? = some ⟨dst, .alloc t, ty, pos, af, none⟩ := by simpa using ho
        split at h1
        · rename_i i hi
          split at h1
          · rename_i F2 hF2
            obtain ⟨F', H', h3, h4⟩ := tailK_sound (P := P) hC hcall t2 F2 _ K h1
            refine ⟨F', H', h3, fun M a w hR hF hs hdf Q hk => ?_⟩
            have hR1 : Rel lo M H { w with drawn := w.drawn + 1 } := hR.drew _
            obtain ⟨info, d, g1, g2, g3, g4, g5, g6, g7⟩ := hC.tab.get hi
            have hz := cells_VRs (plain_VR (M := M) g7)
            let C0 : World → Prop := fun w' => Below w.heap.size { w with drawn := w.drawn + 1 } w'
            let Cr : Nat → World → Prop := fun r w' => Below w.heap.size { w with drawn := w.drawn + 1 } w' ∧ w.heap.size ≤ r ∧ w'.heap[r]? = some (.cells i.zero.cells.toList.toArray t (0, 0))
            refine wp_region_one (C0 := C0) (Cr := Cr) hC.mix hd ho' ⟨rfl, fun a w' hw' => ⟨w'.heap.size, w'.alloc (.cells i.zero.cells t), by simp [execOp, Instr.alloc, hC.tab.zeroValue hi w', newVar, newRow, ptrV], ?_, (show Below w.heap.size { w with drawn := w.drawn + 1 } w' from hw').size, by rw [Array.toArray_toList]; exact heap_alloc_new w' _⟩⟩ (Below.refl _ _) ?_
            · exact Below.trans hw' ⟨rfl, rfl, rfl, by simp, fun k hk => Below.heap_alloc w' _ k (Nat.lt_of_lt_of_le hk (show Below w.heap.size { w with drawn := w.drawn + 1 } w' from hw').size)⟩
            · refine h2 M a _ hR1 hF hs hdf Cr (fun k w' h => h.1) (fun k w' w'' h hb => ⟨h.1.trans (hb.mono h.1.size), h.2.1, by rw [hb.block k (Array.getElem?_eq_some_iff.1 h.2.2).1]; exact h.2.2⟩) _ fun a' f1 f2 f3 r w' hw' => ?_
              obtain ⟨hRn, hxn⟩ := hR1.newAt hw'.1 hw'.2.1 (b := ⟨i.zero.cells.toList, t, none⟩) hw'.2.2 (Nat.le_refl _) (by rw [List.take_length]; exact hz) rfl
              obtain ⟨p1, p2, p3⟩ := putA_sound (a := a') (u := ptrV r) (f1.le hxn.le) f2 hF2 (VR.ptr (s := 0) (o := 0) (Mp.add_get hR.len))
              have hk0 : Keep lo M w w' := ⟨hw'.1.os, hw'.1.tape, hw'.1.output, hw'.1.size, fun k hk _ => hw'.1.block k hk⟩
              exact wpSeq2_of_C (Cl := fun _ => True) _ _ _ (h4 _ _ w' hRn p1 p2 (by rw [p3]; exact f3) _ (fun _ _ => trivial) _ fun M2 a3 w2 hx2 hR3 hK2 hF3 hs3 hd3 =>
                hk M2 a3 w2 (Ext.trans ⟨hxn.le, hxn.new, hxn.newfz⟩ hw'.1.size hx2) hR3 (hk0.trans ⟨hxn.le, hxn.new, hxn.newfz⟩ hK2) hF3 hs3 hd3)
          · cases h1
        · cases h1
      · cases h1
omit hC hcall in
theorem loopK_sound {lo n : Nat} {c : Code} {body : Fr → Heap → (Exit → Fr → Heap → Option α) → Option α} {r : α}
    (hb : ∀ F H K, body F H K = some r → ∃ e F' H', K e F' H' = some r ∧ CodeOK P lo n c F H e F' H') : ∀ (m : Nat) (F : Fr) (H : Heap) (K : Exit → Fr → Heap → Option α), loopK body m F H K = some r →
    ∃ e F' H', K e F' H' = some r ∧ ∀ (M : Mp) (a : Act) (w : World), Rel lo M H w → FR M F a.tmps → a.tmps.size = n → a.defers = [] → ∀ (Q : Exit → Act → World → Prop),
      (∀ M' a' w', Ext lo M w M' → Rel lo M' H' w' → Keep lo M w w' → FR M' F' a'.tmps → a'.tmps.size = n → a'.defers = [] → Q e a' w') → Code.rounds P c Q m a w
  | 0, F, H, K, h => by cases h
  | m + 1, F0, H, K, h => by
    unfold loopK at h
    obtain ⟨F, h, hFF⟩ := tidyF_spec _ _ h
    rw [tidyH_eq] at h
    have hfr : ∀ {M : Mp} {tm : Array Value}, FR M F0 tm → FR M F tm := fun hF t v e => hF t v (hFF t v e).2
    obtain ⟨e, F1, H1, h1, h2⟩ := hb _ _ _ h
    by_cases he : e = .normal
    · subst he
      obtain ⟨e, F', H', h3, h4⟩ := loopK_sound hb m F1 H1 K h1
      refine ⟨e, F', H', h3, fun M a w hR hF hs hd Q hk => ?_⟩
      rw [rounds_succ]
      exact h2 M a w hR (hfr hF) hs hd _ fun M1 a1 w1 hx1 hR1 hK1 hF1 hs1 hd1 => h4 M1 a1 w1 hR1 hF1 hs1 hd1 Q fun M2 a2 w2 hx2 hR2 hK2 hF2 hs2 hd2 => hk M2 a2 w2 (hx1.trans hK1.size hx2) hR2 (hK1.trans hx1 hK2) hF2 hs2 hd2
    · refine ⟨e, F1, H1, by cases e <;> first | exact h1 | exact absurd rfl he, fun M a w hR hF hs hd Q hk => ?_⟩
      rw [rounds_succ]
      exact h2 M a w hR (hfr hF) hs hd _ fun M1 a1 w1 hx1 hR1 hK1 hF1 hs1 hd1 => by
        have := hk M1 a1 w1 hx1 hR1 hK1 hF1 hs1 hd1
        cases e <;> first | exact this | exact absurd rfl he
theorem runK_sound {m lo n f : Nat} {p : Nat → Bool} {r : α} : ∀ (c : Code), drawsOK (C.dr f) c = true → ∀ (F : Fr) (H : Heap) (K : Exit → Fr → Heap → Option α), runK C call m lo n f p c F H K = some r →
    ∃ e F' H', K e F' H' = some r ∧ CodeOK P lo n c F H e F' H' := by
  intro c
  induction c with
  | skip => intro _ F H K h; exact ⟨.normal, F, H, h, fun M a w hR hF hs hd Q hk => wp_skip (hk M a w (Ext.refl _ _ _) hR (Keep.refl _ _ _) hF hs hd)⟩
  | region id ops draw =>
    intro hd F H K h
    unfold runK at h
    obtain ⟨F', H', h1, h2⟩ := regionK_sound (P := P) hC hcall (id := id) (by simpa only [drawsOK] using hd) h
    exact ⟨.normal, F', H', h1, fun M a w hR hF hs hdf Q hk => h2 M a w hR (hF.prune p) hs hdf Q hk⟩
  | seq x y ihx ihy =>
    intro hd F H K h
    simp only [drawsOK, Bool.and_eq_true] at hd
    unfold runK at h
    obtain ⟨e, F1, H1, h1, h2⟩ := ihx hd.1 F H _ h
    by_cases he : e = .normal
    · subst he
      obtain ⟨e, F', H', h3, h4⟩ := ihy hd.2 F1 H1 K h1
      refine ⟨e, F', H', h3, fun M a w hR hF hs hdf Q hk => wp_seq ?_⟩
      exact h2 M a w hR hF hs hdf _ fun M1 a1 w1 hx1 hR1 hK1 hF1 hs1 hd1 => h4 M1 a1 w1 hR1 hF1 hs1 hd1 Q fun M2 a2 w2 hx2 hR2 hK2 hF2 hs2 hd2 => hk M2 a2 w2 (hx1.trans hK1.size hx2) hR2 (hK1.trans hx1 hK2) hF2 hs2 hd2
    · refine ⟨e, F1, H1, by cases e <;> first | exact h1 | exact absurd rfl he, fun M a w hR hF hs hdf Q hk => wp_seq ?_⟩
      exact h2 M a w hR hF hs hdf _ fun M1 a1 w1 hx1 hR1 hK1 hF1 hs1 hd1 => by
        have := hk M1 a1 w1 hx1 hR1 hK1 hF1 hs1 hd1
        cases e <;> first | exact this | exact absurd rfl he
  | cond c x y ihx ihy =>
    intro hd F H K h
    simp only [drawsOK, Bool.and_eq_true] at hd
    unfold runK at h
    split at h
    · rename_i t ht
      cases t with
      | true =>
        rw [cond_true] at h
        obtain ⟨e, F', H', h1, h2⟩ := ihx hd.1 F H K h
        refine ⟨e, F', H', h1, fun M a w hR hF hs hdf Q hk => ?_⟩
        have hv := arg_sound hF ht
        generalize hz : a.eval c = c' at hv
        cases hv
        exact wp_cond_true hz (h2 M a w hR hF hs hdf Q hk)
      | false =>
        rw [cond_false] at h
        obtain ⟨e, F', H', h1, h2⟩ := ihy hd.2 F H K h
        refine ⟨e, F', H', h1, fun M a w hR hF hs hdf Q hk => ?_⟩
        have hv := arg_sound hF ht
        generalize hz : a.eval c = c' at hv
        cases hv
        exact wp_cond_false hz (h2 M a w hR hF hs hdf Q hk)
    · cases h
  | block id x ih =>
    intro hd F H K h
    simp only [drawsOK] at hd
    unfold runK at h
    obtain ⟨e, F1, H1, h1, h2⟩ := ih hd F H _ h
    cases e with
    | exit i =>
      simp only at h1
      cases hi : (i == id) with
      | true =>
        rw [hi, cond_true] at h1
        refine ⟨.normal, F1, H1, h1, fun M a w hR hF hs hdf Q hk => wp_block ?_⟩
        refine h2 M a w hR hF hs hdf _ fun M1 a1 w1 hx1 hR1 hK1 hF1 hs1 hd1 => ?_
        have : i = id := by simpa using hi
        simp only [Exit.inBlock, this, if_true]
        exact hk M1 a1 w1 hx1 hR1 hK1 hF1 hs1 hd1
      | false =>
        rw [hi, cond_false] at h1
        refine ⟨.exit i, F1, H1, h1, fun M a w hR hF hs hdf Q hk => wp_block ?_⟩
        refine h2 M a w hR hF hs hdf _ fun M1 a1 w1 hx1 hR1 hK1 hF1 hs1 hd1 => ?_
        have : ¬ i = id := by simpa using hi
        simp only [Exit.inBlock, this, if_false]
        exact hk M1 a1 w1 hx1 hR1 hK1 hF1 hs1 hd1
    | normal => exact ⟨_, F1, H1, h1, fun M a w hR hF hs hdf Q hk => wp_block (h2 M a w hR hF hs hdf _ hk)⟩
    | goto l => exact ⟨_, F1, H1, h1, fun M a w hR hF hs hdf Q hk => wp_block (h2 M a w hR hF hs hdf _ hk)⟩
    | ret => exact ⟨_, F1, H1, h1, fun M a w hR hF hs hdf Q hk => wp_block (h2 M a w hR hF hs hdf _ hk)⟩
    | panic c => exact ⟨_, F1, H1, h1, fun M a w hR hF hs hdf Q hk => wp_block (h2 M a w hR hF hs hdf _ hk)⟩
    | outgrown => exact ⟨_, F1, H1, h1, fun M a w hR hF hs hdf Q hk => wp_block (h2 M a w hR hF hs hdf _ hk)⟩
  | loop x ih =>
    intro hd F H K h
    simp only [drawsOK] at hd
    unfold runK at h
    obtain ⟨e, F', H', h1, h2⟩ := loopK_sound (P := P) (lo := lo) (n := n) (c := x) (fun F H K h => ih hd F H K h) m F H K h
    exact ⟨e, F', H', h1, fun M a w hR hF hs hdf Q hk => wp_loop_rounds m (h2 M a w hR hF hs hdf Q hk)⟩
  | exit id => intro _ F H K h; exact ⟨.exit id, F, H, h, fun M a w hR hF hs hd Q hk => wp_exit (hk M a w (Ext.refl _ _ _) hR (Keep.refl _ _ _) hF hs hd)⟩
  | ret => intro _ F H K h; exact ⟨.ret, F, H, h, fun M a w hR hF hs hd Q hk => wp_ret (hk M a w (Ext.refl _ _ _) hR (Keep.refl _ _ _) hF hs hd)⟩
  | label l => intro _ F H K h; exact ⟨.normal, F, H, h, fun M a w hR hF hs hd Q hk => wp_label (hk M a w (Ext.refl _ _ _) hR (Keep.refl _ _ _) hF hs hd)⟩
  | _ => intro _ F H K h; simp [runK] at h
end
end Go.Proofs.YtgkicojmgokinaaGreatDoor.Ab
