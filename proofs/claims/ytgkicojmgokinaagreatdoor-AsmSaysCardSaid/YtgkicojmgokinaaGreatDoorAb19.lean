/- Trimmed: Ab19 -/
import Derived.Test.YtgkicojmgokinaaGreatDoorAb15
namespace Go.Proofs.YtgkicojmgokinaaGreatDoor.Ab
open Go Go.RowKit
set_option linter.unusedVariables false
set_option linter.unusedSimpArgs false
theorem Fr.get_mem : ∀ {F : Fr} {t : Nat} {v : Value}, F.get t = some v → (t, v) ∈ F
  | [], t, v, e => by cases e
  | (k, y) :: r, t, v, e => by
    simp only [Fr.get] at e
    cases hk' : (k == t) with
    | true =>
      rw [hk'] at e; cases e
      have : k = t := by simpa using hk'
      subst this; exact List.mem_cons_self ..
    | false => rw [hk'] at e; exact List.mem_cons_of_mem _ (Fr.get_mem e)
theorem RowOK.nil {P : Program} {lo n : Nat} {F : Fr} {H : Heap} : RowOK P lo n [] F H .normal F H :=
  fun M a w hR hF hs hd Q rest hk => hk M a w (Ext.refl _ _ _) hR (Keep.refl _ _ _) hF hs hd
theorem RowOK.app {P : Program} {lo n : Nat} {l l' : List Code} {F F1 F' : Fr} {H H1 H' : Heap} {e : Exit} (h : RowOK P lo n l F H .normal F1 H1) (k : RowOK P lo n l' F1 H1 e F' H') : RowOK P lo n (l ++ l') F H e F' H' := by
  intro M a w hR hF hs hd Q rest hk
  rw [List.append_assoc]
  refine h M a w hR hF hs hd Q (l' ++ rest) fun M1 a1 w1 hx1 hR1 hK1 hF1 hs1 hd1 => ?_
  exact k M1 a1 w1 hR1 hF1 hs1 hd1 Q rest fun M2 a2 w2 hx2 hR2 hK2 hF2 hs2 hd2 => hk M2 a2 w2 (hx1.trans hK1.size hx2) hR2 (hK1.trans hx1 hK2) hF2 hs2 hd2
theorem RowOK.left {P : Program} {lo n : Nat} {l : List Code} {F F' : Fr} {H H' : Heap} {e : Exit} (h : RowOK P lo n l F H e F' H') (he : e ≠ .normal) (l' : List Code) : RowOK P lo n (l ++ l') F H e F' H' := by
  intro M a w hR hF hs hd Q rest hk
  rw [List.append_assoc]
  refine h M a w hR hF hs hd Q (l' ++ rest) fun M1 a1 w1 hx1 hR1 hK1 hF1 hs1 hd1 => ?_
  have := hk M1 a1 w1 hx1 hR1 hK1 hF1 hs1 hd1
  cases e <;> first | exact absurd rfl he | exact this
theorem RowOK.code {P : Program} {lo n : Nat} {c : Code} {F F' : Fr} {H H' : Heap} {e : Exit} (h : RowOK P lo n (flat c) F H e F' H') : CodeOK P lo n c F H e F' H' := by
  intro M a w hR hF hs hd Q hk
  refine wp_of_flat ?_
  have := h M a w hR hF hs hd Q [] fun M1 a1 w1 hx1 hR1 hK1 hF1 hs1 hd1 => by
    have := hk M1 a1 w1 hx1 hR1 hK1 hF1 hs1 hd1
    cases e <;> exact this
  rwa [List.append_nil] at this
theorem CodeOK.row {P : Program} {lo n : Nat} {c : Code} {F F' : Fr} {H H' : Heap} {e : Exit} (h : CodeOK P lo n c F H e F' H') : RowOK P lo n [c] F H e F' H' :=
  fun M a w hR hF hs hd Q rest hk => h M a w hR hF hs hd _ hk
def outOf (id : Nat) : Exit → Exit
  | .exit i => if i = id then .normal else .exit i
  | e => e
theorem CodeOK.block {P : Program} {lo n id : Nat} {c : Code} {F F' : Fr} {H H' : Heap} {e : Exit} (h : CodeOK P lo n c F H e F' H') : CodeOK P lo n (.block id c) F H (outOf id e) F' H' := by
  intro M a w hR hF hs hd Q hk
  refine wp_block (h M a w hR hF hs hd _ fun M1 a1 w1 hx1 hR1 hK1 hF1 hs1 hd1 => ?_)
  have := hk M1 a1 w1 hx1 hR1 hK1 hF1 hs1 hd1
  cases e with
  | exit i =>
    simp only [outOf, Exit.inBlock] at this ⊢
    split at this
    · rename_i hi; rw [if_pos hi]; exact this
    · rename_i hi; rw [if_neg hi]; exact this
  | _ => exact this
theorem CodeOK.cond {P : Program} {lo n : Nat} {t : Tmp} {b : Bool} {x y : Code} {F F' : Fr} {H H' : Heap} {e : Exit} (hb : F.get t = some (.bool b)) (h : CodeOK P lo n (bif b then x else y) F H e F' H') : CodeOK P lo n (.cond (.tmp t) x y) F H e F' H' := by
  intro M a w hR hF hs hd Q hk
  have e1 : a.eval (.tmp t) = .bool b := by
    have hv := arg_sound (x := .tmp t) hF hb
    generalize a.eval (.tmp t) = u at hv
    cases hv; rfl
  cases b with
  | true => exact wp_cond_true e1 (h M a w hR hF hs hd Q hk)
  | false => exact wp_cond_false e1 (h M a w hR hF hs hd Q hk)
theorem CodeOK.loop {P : Program} {lo n : Nat} {c : Code} (F : Nat → Fr) (H : Nat → Heap) (m : Nat) {F' : Fr} {H' : Heap} {e : Exit} (he : e ≠ .normal) (hs : ∀ k, k < m → CodeOK P lo n c (F k) (H k) .normal (F (k + 1)) (H (k + 1))) (hend : CodeOK P lo n c (F m) (H m) e F' H') : CodeOK P lo n (.loop c) (F 0) (H 0) e F' H' := by
  have key : ∀ (d k : Nat), k + d = m → ∀ (M : Mp) (a : Act) (w : World), Rel lo M (H k) w → FR M (F k) a.tmps → a.tmps.size = n → a.defers = [] → ∀ (Q : Exit → Act → World → Prop),
      (∀ M' a' w', Ext lo M w M' → Rel lo M' H' w' → Keep lo M w w' → FR M' F' a'.tmps → a'.tmps.size = n → a'.defers = [] → Q e a' w') → Code.rounds P c Q (d + 1) a w := by
    intro d
    induction d with
    | zero =>
      intro k hk M a w hR hF hsz hd Q hq
      obtain rfl : k = m := by omega
      rw [rounds_succ]
      exact hend M a w hR hF hsz hd _ fun M1 a1 w1 hx1 hR1 hK1 hF1 hs1 hd1 => by
        have := hq M1 a1 w1 hx1 hR1 hK1 hF1 hs1 hd1
        cases e <;> first | exact this | exact absurd rfl he
    | succ d ih =>
      intro k hk M a w hR hF hsz hd Q hq
      rw [rounds_succ]
      exact hs k (by omega) M a w hR hF hsz hd _ fun M1 a1 w1 hx1 hR1 hK1 hF1 hs1 hd1 =>
        ih (k + 1) (by omega) M1 a1 w1 hR1 hF1 hs1 hd1 Q fun M2 a2 w2 hx2 hR2 hK2 hF2 hs2 hd2 => hq M2 a2 w2 (hx1.trans hK1.size hx2) hR2 (hK1.trans hx1 hK2) hF2 hs2 hd2
  intro M a w hR hF hsz hd Q hk
  exact wp_loop_rounds (m + 1) (key m 0 (by omega) M a w hR hF hsz hd Q hk)
theorem RowOK.retell {P : Program} {lo n : Nat} {l : List Code} {F F1 F2 : Fr} {H H1 H2 : Heap} {e : Exit} (h : RowOK P lo n l F H e F1 H1) (sel : List Nat) (hk : ∀ i, i < H.length → sel[i]? = some i) (hsel : ∀ s ∈ sel, s < H1.length)
    (hnd : ∀ (i j s : Nat), sel[i]? = some s → sel[j]? = some s → i = j) (hlo : ∀ (i s : Nat), sel[i]? = some s → lo ≤ i → lo ≤ s) (hl : H2.length = sel.length)
    (hb : ∀ (i : Nat) (b' : Blk), H2[i]? = some (some b') → ∃ s b, sel[i]? = some s ∧ H1[s]? = some (some b) ∧ b'.elem = b.elem ∧ b'.view = none ∧ b'.cells.length ≤ b.cells.length ∧ ∀ (M : Mp) us, M.pl.length = H1.length → VRs M b.cells us → VRs (selM M sel) b'.cells (us.take b'.cells.length))
    (hF : ∀ e ∈ F2, ∃ v, F1.get e.1 = some v ∧ ∀ (M : Mp) u, M.pl.length = H1.length → VR M v u → VR (selM M sel) e.2 u) : RowOK P lo n l F H e F2 H2 := by
  intro M a w hR hFR hs hd Q rest hq
  refine h M a w hR hFR hs hd Q rest fun M1 a1 w1 hx1 hR1 hK1 hF1 hs1 hd1 => ?_
  have hA : AtG lo M w n M1 F1 H1 a1 w1 := ⟨hR1, hF1, hs1, hd1, hx1, hK1⟩
  have hl1 := hR1.len
  have hA' := hA.retell (F' := F2) (H' := H2) sel (fun i hi => hk i (by rw [← hR.len]; exact hi)) (fun s hs => by rw [hl1]; exact hsel s hs) hnd hlo hl
    (fun i b' e => let ⟨s, b, a1, a2, a3, a4, a5, a6⟩ := hb i b' e; ⟨s, b, a1, a2, a3, a4, a5, fun us hu => a6 M1 us hl1 hu⟩)
    (fun e he => let ⟨v, a1, a2⟩ := hF e he; ⟨v, a1, fun u hu => a2 M1 u hl1 hu⟩)
  exact hq _ a1 w1 hA'.ext hA'.rel hA'.keep hA'.fr hs1 hd1
theorem RowOK.slots {P : Program} {lo n : Nat} {l : List Code} {F F1 F2 : Fr} {H H1 : Heap} {e : Exit} (h : RowOK P lo n l F H e F1 H1) (hF : ∀ e ∈ F2, F1.get e.1 = some e.2) : RowOK P lo n l F H e F2 H1 := by
  intro M a w hR hFR hs hd Q rest hq
  refine h M a w hR hFR hs hd Q rest fun M1 a1 w1 hx1 hR1 hK1 hF1 hs1 hd1 => ?_
  refine hq M1 a1 w1 hx1 hR1 hK1 (fun t v e => ?_) hs1 hd1
  have hmem := Fr.get_mem e
  exact hF1 t v (hF (t, v) hmem)
theorem RowOK.of_run {P : Program} {C : Ctx} (hC : CtxOK P C) {m k lo n f : Nat} {p : Nat → Bool} {l : List Code} {F F' : Fr} {H H' : Heap} {e : Exit} (hd : l.all (drawsOK (C.dr f)) = true) (h : runL (C.at_ f) (callK C m) k lo n f p l F H (fun e F H => some (e, F, H)) = some (e, F', H')) : RowOK P lo n l F H e F' H' := by
  obtain ⟨e1, F1, H1, h1, h2⟩ := runL_sound (hC.at_ f) (call := callK C m) (fun lo f args H K r h => callK_sound hC m lo f args H K r h) l hd F H _ h
  cases h1
  exact h2
theorem CallOK.of_code {P : Program} {C : Ctx} (hC : CtxOK P C) {lo f : Nat} {fn : Func} {c : Code} {args l : List Value} {F' : Fr} {H H' : Heap} {e : Exit} (hfn : C.Fn f = some fn) (hc : fn.body = some c) (hle : args.length ≤ fn.ntmps)
    (h : CodeOK P lo fn.ntmps c (enterF 0 args) H e F' H') (he : e = .normal ∨ e = .ret) (hr : resA C.T F' H' fn.results.toList = some l) : CallOK P lo f args H (tupleA l) H' := by
  obtain ⟨hf1, hf2, hf3⟩ := hC.fn f fn hfn
  intro M w rargs hR hv
  refine calls_of_wp hf1 hc ?_
  have hrl : rargs.length ≤ fn.ntmps := by rw [← hv.length]; exact hle
  refine h M _ w hR (enterF_FR hv _) (by simp; omega) rfl _ fun M' a' w' hx hR' hK hF' hs hd => ?_
  obtain ⟨rv, h3, h4⟩ := results_sound hC hR' hF' hr
  rcases he with rfl | rfl
  · exact ⟨hd, rv, h4, M', rv, rfl, h3, hx, hR', hK⟩
  · exact ⟨hd, rv, h4, M', rv, rfl, h3, hx, hR', hK⟩
end Go.Proofs.YtgkicojmgokinaaGreatDoor.Ab
namespace Go.Proofs.YtgkicojmgokinaaGreatDoor.Ab
open Go Go.RowKit
set_option linter.unusedVariables false
set_option linter.unusedSimpArgs false
def Tr (k : Nat) (v : Value) : Prop := ∀ (M : Mp) (u : Value), k ≤ M.pl.length → VR M v u → VR (selM M (List.range k)) v u
theorem range_get {k i : Nat} (h : i < k) : (List.range k)[i]? = some i := by simp [h]
theorem Tr.gh {k : Nat} {v : Value} (h : Gh v) : Tr k v := fun M u _ hv => tr_gh h hv
theorem Tr.plain {k : Nat} {v : Value} (h : Ab.plain v = true) : Tr k v := Tr.gh (Gh.plain h)
theorem Tr.ptr {k i o : Nat} (h : i < k) : Tr k (.pointer (some ⟨i, o, none⟩)) := fun M u hl hv => tr_ptr (range_get h) (by omega) hv
theorem Tr.slice {k i o n z : Nat} (h : i < k) (hz : 0 < z) : Tr k (.slice (some ⟨i, o, none⟩) n z) := fun M u hl hv => tr_slice (range_get h) (by omega) hz hv
theorem Tr.vrs {k : Nat} {xs : List Value} (h : ∀ x ∈ xs, Tr k x) : ∀ {M : Mp} {us : List Value}, k ≤ M.pl.length → VRs M xs us → VRs (selM M (List.range k)) xs us := by
  induction xs with
  | nil => intro M us _ hv; cases hv; exact .nil
  | cons x xs ih => intro M us hl hv; cases hv with | cons a b => exact .cons (h x (List.mem_cons_self ..) _ _ hl a) (ih (fun y hy => h y (List.mem_cons_of_mem _ hy)) hl b)
theorem Tr.agg {k : Nat} {xs : List Value} (h : ∀ x ∈ xs, Tr k x) : Tr k (.agg ⟨xs⟩) := fun M u hl hv => by
  generalize hg : Value.agg ⟨xs⟩ = g at hv
  cases hv <;> first | (cases hg; done) | skip
  case agg ys ys' a =>
    have : xs = ys := by injection hg with e; injection e
    subst this
    exact .agg (Tr.vrs h hl a)
def see (ts : List Nat) (k : Nat) (e : Exit) (F : Fr) (H : Heap) : Option (Exit × List (Option Value) × Heap) := some (e, ts.map F.get, H.take k)
theorem see_slots : ∀ {F1 F2 : Fr}, (F2.map (·.1)).map F1.get = F2.map (fun e => some e.2) → ∀ e ∈ F2, F1.get e.1 = some e.2
  | F1, [], h, e, he => by cases he
  | F1, x :: r, h, e, he => by
    simp only [List.map_cons, List.cons.injEq] at h
    rcases List.mem_cons.1 he with rfl | he
    · exact h.1
    · exact see_slots h.2 e he
theorem RowOK.of_see {P : Program} {C : Ctx} (hC : CtxOK P C) {m j lo n f : Nat} {p : Nat → Bool} {l : List Code} {F F2 : Fr} {H H2 : Heap} {e : Exit} {k : Nat} {ts : List Nat} (hts : F2.map (·.1) = ts) (hd : l.all (drawsOK (C.dr f)) = true)
    (h : runL (C.at_ f) (callK C m) j lo n f p l F H (see ts k) = some (e, F2.map (fun e => some e.2), H2)) (hk : H.length ≤ k) (hl : H2.length = k) (hF : ∀ x ∈ F2, Tr k x.2) (hH : ∀ b, some b ∈ H2 → b.view = none ∧ ∀ x ∈ b.cells, Tr k x) : RowOK P lo n l F H e F2 H2 := by
  subst hts
  obtain ⟨e1, F1, H1, h1, h2⟩ := runL_sound (hC.at_ f) (call := callK C m) (fun lo f args H K r h => callK_sound hC m lo f args H K r h) l hd F H _ h
  simp only [see, Option.some.injEq, Prod.mk.injEq] at h1
  obtain ⟨rfl, h3, h4⟩ := h1
  have hk1 : k ≤ H1.length := by
    have := congrArg List.length h4
    rw [hl, List.length_take] at this
    omega
  have hget : ∀ i, i < k → H1[i]? = H2[i]? := fun i hi => by rw [← h4, List.getElem?_take_of_lt hi]
  refine h2.retell (List.range k) (fun i hi => range_get (by omega)) (fun s hs => by simp at hs; omega) (fun i j s a b => ?_) (fun i s a hi => ?_) (by simp [hl]) (fun i b' hb => ?_) (fun x hx => ⟨x.2, see_slots h3 x hx, fun M u hM hv => hF x hx M u (by omega) hv⟩)
  · have ha := (List.getElem?_eq_some_iff.1 a).1
    have hb := (List.getElem?_eq_some_iff.1 b).1
    simp at ha hb
    rw [range_get ha] at a; rw [range_get hb] at b
    cases a; cases b; rfl
  · have ha := (List.getElem?_eq_some_iff.1 a).1
    simp at ha
    rw [range_get ha] at a; cases a; exact hi
  · have hi : i < k := by rw [← hl]; exact (List.getElem?_eq_some_iff.1 hb).1
    obtain ⟨hv, hc⟩ := hH b' (List.mem_of_getElem? hb)
    refine ⟨i, b', range_get hi, by rw [hget i hi]; exact hb, rfl, hv, Nat.le_refl _, fun M us hM hu => ?_⟩
    have := Tr.vrs hc (by omega) hu
    rwa [List.take_of_length_le (by rw [hu.length]; exact Nat.le_refl _)]
end Go.Proofs.YtgkicojmgokinaaGreatDoor.Ab
namespace Go.Proofs.YtgkicojmgokinaaGreatDoor.Ab
open Go Go.RowKit
set_option linter.unusedVariables false
set_option linter.unusedSimpArgs false
def GoOK (P : Program) (lo base n : Nat) (l : List Code) (F : Fr) (H : Heap) (e : Exit) (F' : Fr) (H' : Heap) : Prop :=
  ∀ (M0 : Mp) (w0 : World) (M : Mp) (a : Act) (w : World), M0.pl.length = base → AtG lo M0 w0 n M F H a w → ∀ (Q : Exit → Act → World → Prop) (rest : List Code),
    (∀ M' a' w', AtG lo M0 w0 n M' F' H' a' w' → Exit.then (wpL P Q rest) Q e a' w') → wpL P Q (l ++ rest) a w
def GcOK (P : Program) (lo base n : Nat) (c : Code) (F : Fr) (H : Heap) (e : Exit) (F' : Fr) (H' : Heap) : Prop :=
  ∀ (M0 : Mp) (w0 : World) (M : Mp) (a : Act) (w : World), M0.pl.length = base → AtG lo M0 w0 n M F H a w → ∀ (Q : Exit → Act → World → Prop),
    (∀ M' a' w', AtG lo M0 w0 n M' F' H' a' w' → Q e a' w') → c.wp P Q a w
section
variable {P : Program} {lo base n : Nat} {F F1 F2 F' : Fr} {H H1 H2 H' : Heap} {e : Exit}
theorem RowOK.go {l : List Code} (h : RowOK P lo n l F H e F' H') : GoOK P lo base n l F H e F' H' :=
  fun M0 w0 M a w _ ha Q rest hk => h.atG ha rest hk
theorem GoOK.app {l l' : List Code} (h : GoOK P lo base n l F H .normal F1 H1) (k : GoOK P lo base n l' F1 H1 e F' H') : GoOK P lo base n (l ++ l') F H e F' H' := by
  intro M0 w0 M a w hb ha Q rest hk
  rw [List.append_assoc]
  exact h M0 w0 M a w hb ha Q (l' ++ rest) fun M1 a1 w1 h1 => k M0 w0 M1 a1 w1 hb h1 Q rest hk
theorem GoOK.left {l : List Code} (h : GoOK P lo base n l F H e F' H') (he : e ≠ .normal) (l' : List Code) : GoOK P lo base n (l ++ l') F H e F' H' := by
  intro M0 w0 M a w hb ha Q rest hk
  rw [List.append_assoc]
  refine h M0 w0 M a w hb ha Q (l' ++ rest) fun M1 a1 w1 h1 => ?_
  have := hk M1 a1 w1 h1
  cases e <;> first | exact absurd rfl he | exact this
theorem GoOK.code {c : Code} (h : GoOK P lo base n (flat c) F H e F' H') : GcOK P lo base n c F H e F' H' := by
  intro M0 w0 M a w hb ha Q hk
  refine wp_of_flat ?_
  have := h M0 w0 M a w hb ha Q [] fun M1 a1 w1 h1 => by
    have := hk M1 a1 w1 h1
    cases e <;> exact this
  rwa [List.append_nil] at this
theorem GcOK.row {c : Code} (h : GcOK P lo base n c F H e F' H') : GoOK P lo base n [c] F H e F' H' :=
  fun M0 w0 M a w hb ha Q rest hk => h M0 w0 M a w hb ha _ hk
theorem GcOK.block {id : Nat} {c : Code} (h : GcOK P lo base n c F H e F' H') : GcOK P lo base n (.block id c) F H (outOf id e) F' H' := by
  intro M0 w0 M a w hb ha Q hk
  refine wp_block (h M0 w0 M a w hb ha _ fun M1 a1 w1 h1 => ?_)
  have := hk M1 a1 w1 h1
  cases e with
  | exit i =>
    simp only [outOf, Exit.inBlock] at this ⊢
    split at this
    · rename_i hi; rw [if_pos hi]; exact this
    · rename_i hi; rw [if_neg hi]; exact this
  | _ => exact this
theorem GcOK.cond {t : Tmp} {b : Bool} {x y : Code} (hb : F.get t = some (.bool b)) (h : GcOK P lo base n (bif b then x else y) F H e F' H') : GcOK P lo base n (.cond (.tmp t) x y) F H e F' H' := by
  intro M0 w0 M a w hbs ha Q hk
  have e1 : a.eval (.tmp t) = .bool b := by
    have hv := arg_sound (x := .tmp t) ha.fr hb
    generalize a.eval (.tmp t) = u at hv
    cases hv; rfl
  cases b with
  | true => exact wp_cond_true e1 (h M0 w0 M a w hbs ha Q hk)
  | false => exact wp_cond_false e1 (h M0 w0 M a w hbs ha Q hk)
theorem GcOK.loop {c : Code} (F : Nat → Fr) (H : Nat → Heap) (m : Nat) (he : e ≠ .normal) (hs : ∀ k, k < m → GcOK P lo base n c (F k) (H k) .normal (F (k + 1)) (H (k + 1))) (hend : GcOK P lo base n c (F m) (H m) e F' H') : GcOK P lo base n (.loop c) (F 0) (H 0) e F' H' := by
  intro M0 w0 M a w hb ha Q hk
  have key : ∀ (d k : Nat), k + d = m → ∀ (M : Mp) (a : Act) (w : World), AtG lo M0 w0 n M (F k) (H k) a w → Code.rounds P c Q (d + 1) a w := by
    intro d
    induction d with
    | zero =>
      intro k hkm M a w ha
      obtain rfl : k = m := by omega
      rw [rounds_succ]
      exact hend M0 w0 M a w hb ha _ fun M1 a1 w1 h1 => by
        have := hk M1 a1 w1 h1
        cases e <;> first | exact this | exact absurd rfl he
    | succ d ih =>
      intro k hkm M a w ha
      rw [rounds_succ]
      exact hs k (by omega) M0 w0 M a w hb ha _ fun M1 a1 w1 h1 => ih (k + 1) (by omega) M1 a1 w1 h1
  exact wp_loop_rounds (m + 1) (key m 0 (by omega) M a w ha)
theorem GoOK.retell {l : List Code} (h : GoOK P lo base n l F H e F1 H1) (sel : List Nat) (hk : ∀ i, i < base → sel[i]? = some i) (hsel : ∀ s ∈ sel, s < H1.length)
    (hnd : ∀ (i j s : Nat), sel[i]? = some s → sel[j]? = some s → i = j) (hlo : ∀ (i s : Nat), sel[i]? = some s → lo ≤ i → lo ≤ s) (hl : H2.length = sel.length)
    (hb : ∀ (i : Nat) (b' : Blk), H2[i]? = some (some b') → ∃ s b, sel[i]? = some s ∧ H1[s]? = some (some b) ∧ b'.elem = b.elem ∧ b'.view = none ∧ b'.cells.length ≤ b.cells.length ∧ ∀ (M : Mp) us, M.pl.length = H1.length → VRs M b.cells us → VRs (selM M sel) b'.cells (us.take b'.cells.length))
    (hF : ∀ e ∈ F2, ∃ v, F1.get e.1 = some v ∧ ∀ (M : Mp) u, M.pl.length = H1.length → VR M v u → VR (selM M sel) e.2 u) : GoOK P lo base n l F H e F2 H2 := by
  intro M0 w0 M a w hbs ha Q rest hq
  refine h M0 w0 M a w hbs ha Q rest fun M1 a1 w1 hA => ?_
  have hl1 := hA.rel.len
  exact hq _ a1 w1 (hA.retell (F' := F2) (H' := H2) sel (fun i hi => hk i (by rw [← hbs]; exact hi)) (fun s hs => by rw [hl1]; exact hsel s hs) hnd hlo hl
    (fun i b' e => let ⟨s, b, a1, a2, a3, a4, a5, a6⟩ := hb i b' e; ⟨s, b, a1, a2, a3, a4, a5, fun us hu => a6 M1 us hl1 hu⟩)
    (fun e he => let ⟨v, a1, a2⟩ := hF e he; ⟨v, a1, fun u hu => a2 M1 u hl1 hu⟩))
theorem CallOK.of_go {C : Ctx} (hC : CtxOK P C) {f : Nat} {fn : Func} {c : Code} {args l : List Value} (hfn : C.Fn f = some fn) (hc : fn.body = some c) (hle : args.length ≤ fn.ntmps)
    (h : GcOK P lo H.length fn.ntmps c (enterF 0 args) H e F' H') (he : e = .normal ∨ e = .ret) (hr : resA C.T F' H' fn.results.toList = some l) : CallOK P lo f args H (tupleA l) H' := by
  obtain ⟨hf1, hf2, hf3⟩ := hC.fn f fn hfn
  intro M w rargs hR hv
  refine calls_of_wp hf1 hc ?_
  have hrl : rargs.length ≤ fn.ntmps := by rw [← hv.length]; exact hle
  refine h M w M _ w hR.len ⟨hR, enterF_FR hv _, by simp; omega, rfl, Ext.refl _ _ _, Keep.refl _ _ _⟩ _ fun M' a' w' hA => ?_
  obtain ⟨rv, h3, h4⟩ := results_sound hC hA.rel hA.fr hr
  rcases he with rfl | rfl
  · exact ⟨hA.defers, rv, h4, M', rv, rfl, h3, hA.ext, hA.rel, hA.keep⟩
  · exact ⟨hA.defers, rv, h4, M', rv, rfl, h3, hA.ext, hA.rel, hA.keep⟩
end
end Go.Proofs.YtgkicojmgokinaaGreatDoor.Ab
