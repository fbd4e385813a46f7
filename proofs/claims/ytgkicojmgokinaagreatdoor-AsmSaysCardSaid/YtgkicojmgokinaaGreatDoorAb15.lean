/- Trimmed: Ab15, Ab16 -/
import Derived.Test.YtgkicojmgokinaaGreatDoorAb14
namespace Go.Proofs.YtgkicojmgokinaaGreatDoor.Ab
open Go Go.RowKit
set_option linter.unusedVariables false
set_option linter.unusedSimpArgs false
def flat : Code → List Code
  | .seq a b => flat a ++ flat b
  | c => [c]
def wpL (P : Program) (Q : Exit → Act → World → Prop) : List Code → Act → World → Prop
  | [], a, w => Q .normal a w
  | c :: l, a, w => c.wp P (Exit.then (wpL P Q l) Q) a w
theorem wpL_flat {P : Program} {Q : Exit → Act → World → Prop} : ∀ (c : Code) (l : List Code) (a : Act) (w : World), wpL P Q (flat c ++ l) a w → c.wp P (Exit.then (wpL P Q l) Q) a w := by
  intro c
  induction c with
  | seq x y ihx ihy =>
    intro l a w h
    simp only [flat, List.append_assoc] at h
    refine wp_seq ?_
    refine wp_mono (ihx _ a w h) fun e a' w' he => ?_
    cases e with
    | normal => exact ihy l a' w' he
    | _ => exact he
  | _ => intro l a w h; exact h
theorem wp_of_flat {P : Program} {Q : Exit → Act → World → Prop} {c : Code} {a : Act} {w : World} (h : wpL P Q (flat c) a w) : c.wp P Q a w := by
  have := wpL_flat c [] a w (by simpa using h)
  refine wp_mono this fun e a' w' he => ?_
  cases e <;> exact he
section
variable {α : Type}
def runL (C : Ctx) (call : Call α) (m lo n f : Nat) (p : Nat → Bool) : List Code → Fr → Heap → (Exit → Fr → Heap → Option α) → Option α
  | [], F, H, K => K .normal F H
  | c :: l, F, H, K => runK C call m lo n f p c F H (fun e F' H' => match e with
    | .normal => runL C call m lo n f p l F' H' K
    | e => K e F' H')
end
def RowOK (P : Program) (lo n : Nat) (l : List Code) (F : Fr) (H : Heap) (e : Exit) (F' : Fr) (H' : Heap) : Prop :=
  ∀ (M : Mp) (a : Act) (w : World), Rel lo M H w → FR M F a.tmps → a.tmps.size = n → a.defers = [] → ∀ (Q : Exit → Act → World → Prop) (rest : List Code),
    (∀ M' a' w', Ext lo M w M' → Rel lo M' H' w' → Keep lo M w w' → FR M' F' a'.tmps → a'.tmps.size = n → a'.defers = [] → Exit.then (wpL P Q rest) Q e a' w') → wpL P Q (l ++ rest) a w
theorem runL_sound {P : Program} {C : Ctx} (hC : CtxOK P C) {α : Type} {call : Call α} (hcall : CallsOK P call) {m lo n f : Nat} {p : Nat → Bool} {r : α} : ∀ (l : List Code), l.all (drawsOK (C.dr f)) = true → ∀ (F : Fr) (H : Heap) (K : Exit → Fr → Heap → Option α), runL C call m lo n f p l F H K = some r →
    ∃ e F' H', K e F' H' = some r ∧ RowOK P lo n l F H e F' H'
  | [], _, F, H, K, h => ⟨.normal, F, H, h, fun M a w hR hF hs hd Q rest hk => hk M a w (Ext.refl _ _ _) hR (Keep.refl _ _ _) hF hs hd⟩
  | c :: l, hd, F, H, K, h => by
    simp only [List.all_cons, Bool.and_eq_true] at hd
    unfold runL at h
    obtain ⟨e, F1, H1, h1, h2⟩ := runK_sound hC hcall c hd.1 F H _ h
    by_cases he : e = .normal
    · subst he
      obtain ⟨e, F', H', h3, h4⟩ := runL_sound hC hcall l hd.2 F1 H1 K h1
      refine ⟨e, F', H', h3, fun M a w hR hF hs hdf Q rest hk => ?_⟩
      refine h2 M a w hR hF hs hdf _ fun M1 a1 w1 hx1 hR1 hK1 hF1 hs1 hd1 => ?_
      exact h4 M1 a1 w1 hR1 hF1 hs1 hd1 Q rest fun M2 a2 w2 hx2 hR2 hK2 hF2 hs2 hd2 => hk M2 a2 w2 (hx1.trans hK1.size hx2) hR2 (hK1.trans hx1 hK2) hF2 hs2 hd2
    · refine ⟨e, F1, H1, by cases e <;> first | exact h1 | exact absurd rfl he, fun M a w hR hF hs hdf Q rest hk => ?_⟩
      refine h2 M a w hR hF hs hdf _ fun M1 a1 w1 hx1 hR1 hK1 hF1 hs1 hd1 => ?_
      have := hk M1 a1 w1 hx1 hR1 hK1 hF1 hs1 hd1
      cases e <;> first | exact this | exact absurd rfl he
structure At (B : Nat) (w0 : World) (lo n : Nat) (M : Mp) (F : Fr) (H : Heap) (a : Act) (w : World) : Prop where
  rel : Rel lo M H w
  fr : FR M F a.tmps
  size : a.tmps.size = n
  defers : a.defers = []
  below : Below B w0 w
  base : B ≤ w.heap.size
  own : ∀ (i : Nat) (p : Pl), lo ≤ i → M.pl[i]? = some p → B ≤ p.1
theorem At.step {B : Nat} {w0 : World} {lo n : Nat} {M : Mp} {F F' : Fr} {H H' : Heap} {a a' : Act} {w w' : World} {M' : Mp} (h : At B w0 lo n M F H a w) (hx : Ext lo M w M') (hR : Rel lo M' H' w') (hK : Keep lo M w w') (hF : FR M' F' a'.tmps) (hs : a'.tmps.size = n) (hd : a'.defers = []) :
    At B w0 lo n M' F' H' a' w' :=
  ⟨hR, hF, hs, hd, h.below.trans ⟨hK.os, hK.tape, hK.output, hK.size, fun k hk => hK.block k (Nat.lt_of_lt_of_le hk h.base) fun i p hi e => by have := h.own i p hi e; omega⟩, Nat.le_trans h.base hK.size, fun i p hi e => by
    rcases Nat.lt_or_ge i M.pl.length with hl | hl
    · obtain ⟨q, hq⟩ : ∃ q, M.pl[i]? = some q := ⟨M.pl[i], List.getElem?_eq_getElem hl⟩
      have := hx.le.at_ i q hq; rw [this] at e; cases e; exact h.own i _ hi hq
    · rcases hx.new i p hl e with h1 | ⟨j, q, h1, h2, h3⟩
      · exact Nat.le_trans h.base h1
      · rw [← h3]; exact h.own j q h1 h2⟩
theorem RowOK.at_ {P : Program} {lo n : Nat} {l : List Code} {F F' : Fr} {H H' : Heap} {e : Exit} (h : RowOK P lo n l F H e F' H') {B : Nat} {w0 : World} {M : Mp} {a : Act} {w : World} (ha : At B w0 lo n M F H a w) {Q : Exit → Act → World → Prop} (rest : List Code)
    (hk : ∀ M' a' w', Le M M' → At B w0 lo n M' F' H' a' w' → Exit.then (wpL P Q rest) Q e a' w') : wpL P Q (l ++ rest) a w :=
  h M a w ha.rel ha.fr ha.size ha.defers Q rest fun M' a' w' hx hR hK hF hs hd => hk M' a' w' hx.le (ha.step hx hR hK hF hs hd)
theorem CodeOK.at_ {P : Program} {lo n : Nat} {c : Code} {F F' : Fr} {H H' : Heap} {e : Exit} (h : CodeOK P lo n c F H e F' H') {B : Nat} {w0 : World} {M : Mp} {a : Act} {w : World} (ha : At B w0 lo n M F H a w) {Q : Exit → Act → World → Prop}
    (hk : ∀ M' a' w', Le M M' → At B w0 lo n M' F' H' a' w' → Q e a' w') : c.wp P Q a w :=
  h M a w ha.rel ha.fr ha.size ha.defers Q fun M' a' w' hx hR hK hF hs hd => hk M' a' w' hx.le (ha.step hx hR hK hF hs hd)
end Go.Proofs.YtgkicojmgokinaaGreatDoor.Ab

namespace Go.Proofs.YtgkicojmgokinaaGreatDoor.Ab
open Go Go.RowKit
set_option linter.unusedVariables false
set_option linter.unusedSimpArgs false
def Gh (v : Value) : Prop := ∀ (M : Mp) (u : Value), VR M v u → VR ⟨[], M.fz⟩ v u
theorem Le.of_nil {Z : Nat → Nat → List Value → Prop} {M : Mp} (h : ∀ r o ys, Z r o ys → M.fz r o ys) : Le ⟨[], Z⟩ M := ⟨fun i p h => (by simp at h), h⟩
theorem Gh.vrs {xs : List Value} (h : ∀ x ∈ xs, Gh x) : ∀ {M : Mp} {us : List Value}, VRs M xs us → VRs ⟨[], M.fz⟩ xs us := by
  induction xs with
  | nil => intro M us hv; cases hv; exact .nil
  | cons x xs ih => intro M us hv; cases hv with | cons a b => exact .cons (h x (List.mem_cons_self ..) _ _ a) (ih (fun y hy => h y (List.mem_cons_of_mem _ hy)) b)
theorem Gh.plain {v : Value} (h : Ab.plain v = true) : Gh v := fun M u hv => by rw [plain_eq h hv]; exact plain_VR h
theorem Gh.opq : Gh Ab.opq := fun M u hv => by
  generalize hg : Ab.opq = g at hv
  cases hv <;> first | (cases hg; done) | skip
  case opq h => exact .opq _ h
theorem Gh.agg {l : List Value} (h : ∀ x ∈ l, Gh x) : Gh (.agg ⟨l⟩) := fun M u hv => by
  generalize hg : Value.agg ⟨l⟩ = g at hv
  cases hv <;> first | (cases hg; done) | skip
  case agg xs xs' a =>
    have : l = xs := by injection hg with e; injection e
    subst this
    exact .agg (Gh.vrs h a)
theorem Gh.tuple {l : List Value} (h : ∀ x ∈ l, Gh x) : Gh (.tuple ⟨l⟩) := fun M u hv => by
  generalize hg : Value.tuple ⟨l⟩ = g at hv
  cases hv <;> first | (cases hg; done) | skip
  case tuple xs xs' a =>
    have : l = xs := by injection hg with e; injection e
    subst this
    exact .tuple (Gh.vrs h a)
theorem Gh.iface {t : TypeId} {v : Value} (h : Gh v) : Gh (.iface t v) := fun M u hv => by
  cases hv with | iface a => exact .iface (h _ _ a)
theorem Gh.gs {z n : Nat} {xs : List Value} (h : ∀ x ∈ xs, Gh x) : Gh (Ab.gs z xs n) := fun M u hv => by
  rcases gs_inv hv with ⟨rfl, rfl, rfl⟩ | ⟨rfl, rfl, ad, c, rfl⟩ | ⟨ys, r, o, j, c, f1, f2, f3, f4, f5, rfl⟩
  · exact .gnil _
  · exact .gemp _ _ _
  · exact .gsl f1 f2 f3 f4 (Gh.vrs h f5)
theorem Gh.gp {xs : List Value} (h : ∀ x ∈ xs, Gh x) : Gh (Ab.gp xs) := fun M u hv => by
  obtain ⟨ys, r, o, j, f1, f2, f3, rfl⟩ := gp_inv hv
  exact .gptr f1 f2 (Gh.vrs h f3)
theorem Gh.le {v : Value} (h : Gh v) {M M' : Mp} (hf : ∀ r o ys, M.fz r o ys → M'.fz r o ys) {u : Value} (hv : VR M v u) : VR M' v u :=
  (h M u hv).le (Le.of_nil hf)
def L1 (xs : List Int) : Value := gs 1 (xs.map (Value.int .i64)) xs.length
theorem Gh.L1 (xs : List Int) : Gh (Ab.L1 xs) := Gh.gs fun x hx => by
  obtain ⟨n, _, rfl⟩ := List.mem_map.1 hx
  exact Gh.plain rfl
def PureOK (P : Program) (f : FuncId) (args : List Value) (v : Value) : Prop :=
  ∀ (Z : Nat → Nat → List Value → Prop) (w : World) (rargs : List Value), (∀ r o ys, Z r o ys → Froz w r o ys) → Globs Z w → VRs ⟨[], Z⟩ args rargs →
    Calls P f rargs.toArray w fun e w' => ∃ (Z' : Nat → Nat → List Value → Prop) (rv : Value), e = .returned rv ∧ Below w.heap.size w w' ∧ (∀ r o ys, Z r o ys → Z' r o ys) ∧ (∀ r o ys, Z' r o ys → Z r o ys ∨ (w.heap.size ≤ r ∧ Froz w' r o ys)) ∧ VR ⟨[], Z'⟩ v rv
theorem PureOK.call {P : Program} {f : FuncId} {args : List Value} {v : Value} (h : PureOK P f args v) (hg : ∀ a ∈ args, Gh a) (lo : Nat) (H : Heap) : CallOK P lo f args H v H := by
  intro M w rargs hR hv
  refine (h M.fz w rargs (fun r o ys e => (hR.froz r o ys e).1) hR.gl (Gh.vrs hg hv)).mono fun e w' ⟨Z', rv, he, hb, h1, h2, h3⟩ => ?_
  have hR' := hR.below hb
  have hle : Le M ⟨M.pl, Z'⟩ := ⟨fun _ _ h => h, h1⟩
  refine ⟨⟨M.pl, Z'⟩, rv, he, h3.le (Le.of_nil fun _ _ _ h => h), ⟨hle, fun i p hi e => ?_, fun r o ys e => ?_⟩, ⟨hR'.len, hR'.dom, fun i b e => ?_, hR'.own, hR'.inj, fun r o ys e => ?_, hR'.gl.mono h1 fun _ _ _ _ => rfl⟩, Keep.of_below hb⟩
  · have := (List.getElem?_eq_some_iff.1 e).1
    have : (⟨M.pl, Z'⟩ : Mp).pl.length = M.pl.length := rfl
    omega
  · rcases h2 r o ys e with h | ⟨h, _⟩
    · exact .inl h
    · exact .inr (.inl h)
  · obtain ⟨r, s, cs, t, fz, g1, g2, g3, g4, g5, g6⟩ := hR'.blk i b e
    exact ⟨r, s, cs, t, fz, g1, g2, g3, g4, g5.le hle, g6⟩
  · rcases h2 r o ys e with h | ⟨h, hf⟩
    · exact hR'.froz r o ys h
    · refine ⟨hf, fun i p hi ep => ?_⟩
      have := hR.dom i p ep
      omega
theorem rel_fz {Z : Nat → Nat → List Value → Prop} {w : World} (h : ∀ r o ys, Z r o ys → Froz w r o ys) (hg : Globs Z w) (lo : Nat) : Rel lo ⟨[], Z⟩ [] w :=
  ⟨rfl, fun i p h => by simp at h, fun i b h => by simp at h, fun i p _ h => by simp at h, fun i j b b' p q _ h => by simp at h, fun r o ys e => ⟨h r o ys e, fun i p _ h => by simp at h⟩, hg⟩
theorem PureOK.of_call {P : Program} {lo f : Nat} {args : List Value} {v : Value} {H' : Heap} (h : CallOK P lo f args [] v H') (hv : Gh v) : PureOK P f args v := by
  intro Z w rargs hZ hg ha
  refine (h ⟨[], Z⟩ w rargs (rel_fz hZ hg lo) ha).mono fun e w' ⟨M', rv, he, hr, hx, hR, hK⟩ => ?_
  refine ⟨M'.fz, rv, he, hK.below (Nat.zero_le _), hx.le.fz, fun r o ys e => ?_, hv _ _ hr⟩
  rcases hx.newfz r o ys e with h | h | ⟨j, q, _, h, _⟩
  · exact .inl h
  · exact .inr ⟨h, (hR.froz r o ys e).1⟩
  · simp at h
theorem PureOK.of_run {P : Program} {C : Ctx} (hC : CtxOK P C) {m lo f : Nat} {args : List Value} {v : Value} (h : callK C m lo f args [] (fun v _ => some v) = some v) (hv : Gh v) : PureOK P f args v := by
  obtain ⟨v', H', h1, h2, _⟩ := callK_sound hC m _ _ _ _ _ _ h
  cases h1
  exact PureOK.of_call h2 hv
structure AtG (lo : Nat) (M0 : Mp) (w0 : World) (n : Nat) (M : Mp) (F : Fr) (H : Heap) (a : Act) (w : World) : Prop where
  rel : Rel lo M H w
  fr : FR M F a.tmps
  size : a.tmps.size = n
  defers : a.defers = []
  ext : Ext lo M0 w0 M
  keep : Keep lo M0 w0 w
theorem AtG.step {lo n : Nat} {M0 M M' : Mp} {w0 w w' : World} {F F' : Fr} {H H' : Heap} {a a' : Act} (h : AtG lo M0 w0 n M F H a w) (hx : Ext lo M w M') (hR : Rel lo M' H' w') (hK : Keep lo M w w') (hF : FR M' F' a'.tmps) (hs : a'.tmps.size = n) (hd : a'.defers = []) :
    AtG lo M0 w0 n M' F' H' a' w' := ⟨hR, hF, hs, hd, h.ext.trans h.keep.size hx, h.keep.trans h.ext hK⟩
theorem RowOK.atG {P : Program} {lo n : Nat} {l : List Code} {F F' : Fr} {H H' : Heap} {e : Exit} (h : RowOK P lo n l F H e F' H') {M0 M : Mp} {w0 w : World} {a : Act} (ha : AtG lo M0 w0 n M F H a w) {Q : Exit → Act → World → Prop} (rest : List Code)
    (hk : ∀ M' a' w', AtG lo M0 w0 n M' F' H' a' w' → Exit.then (wpL P Q rest) Q e a' w') : wpL P Q (l ++ rest) a w :=
  h M a w ha.rel ha.fr ha.size ha.defers Q rest fun M' a' w' hx hR hK hF hs hd => hk M' a' w' (ha.step hx hR hK hF hs hd)
def selM (M : Mp) (sel : List Nat) : Mp := ⟨sel.map (fun s => M.pl.getD s (0, 0, 0)), M.fz⟩
theorem selM_get {M : Mp} {sel : List Nat} {i s : Nat} (h : sel[i]? = some s) (hs : s < M.pl.length) : (selM M sel).pl[i]? = M.pl[s]? := by
  simp [selM, List.getElem?_map, h, List.getD_eq_getElem?_getD, List.getElem?_eq_getElem hs]
theorem selM_some {M : Mp} {sel : List Nat} {i : Nat} {p : Pl} (h : (selM M sel).pl[i]? = some p) (hM : ∀ s ∈ sel, s < M.pl.length) : ∃ s, sel[i]? = some s ∧ M.pl[s]? = some p := by
  cases hs : sel[i]? with
  | none => simp [selM, List.getElem?_map, hs] at h
  | some s => exact ⟨s, rfl, by rw [← selM_get hs (hM s (List.mem_of_getElem? hs))]; exact h⟩
theorem AtG.retell {lo n : Nat} {M0 M : Mp} {w0 w : World} {F F' : Fr} {H H' : Heap} {a : Act} (h : AtG lo M0 w0 n M F H a w) (sel : List Nat) (hk : ∀ i, i < M0.pl.length → sel[i]? = some i) (hsel : ∀ s ∈ sel, s < M.pl.length)
    (hnd : ∀ (i j s : Nat), sel[i]? = some s → sel[j]? = some s → i = j) (hlo : ∀ (i s : Nat), sel[i]? = some s → lo ≤ i → lo ≤ s) (hl : H'.length = sel.length)
    (hb : ∀ (i : Nat) (b' : Blk), H'[i]? = some (some b') → ∃ s b, sel[i]? = some s ∧ H[s]? = some (some b) ∧ b'.elem = b.elem ∧ b'.view = none ∧ b'.cells.length ≤ b.cells.length ∧ ∀ us, VRs M b.cells us → VRs (selM M sel) b'.cells (us.take b'.cells.length))
    (hF : ∀ e ∈ F', ∃ v, F.get e.1 = some v ∧ ∀ u, VR M v u → VR (selM M sel) e.2 u) : AtG lo M0 w0 n (selM M sel) F' H' a w := by
  refine ⟨⟨by simp [selM, hl], fun i p e => ?_, fun i b' e => ?_, fun i p hi e => ?_, fun i j b1 b2 p q hij e1 e2 e3 e4 hl' => ?_, fun r o ys e => ?_, h.rel.gl⟩, ?_, h.size, h.defers, ⟨⟨fun i p e => ?_, fun r o ys e => h.ext.le.fz r o ys e⟩, fun i p hi e => ?_, fun r o ys e => h.ext.newfz r o ys e⟩, h.keep⟩
  · obtain ⟨s, _, h2⟩ := selM_some e hsel
    exact h.rel.dom s p h2
  · obtain ⟨s, b, h1, h2, h3, h4, h5, h6⟩ := hb i b' e
    obtain ⟨r, o, cs, t, fz, g1, g2, g3, g4, g5, g6⟩ := h.rel.blk s b h2
    refine ⟨r, o, cs, t, fz, by rw [selM_get h1 (hsel s (List.mem_of_getElem? h1))]; exact g1, g2, fun hi => by rw [h3]; exact g3 (hlo i s h1 hi), by omega, ?_, fun p o' hv => by rw [h4] at hv; cases hv⟩
    have := h6 _ g5
    rwa [List.take_take, Nat.min_eq_left h5] at this
  · obtain ⟨s, h1, h2⟩ := selM_some e hsel
    exact h.rel.own s p (hlo i s h1 hi) h2
  · obtain ⟨s, f1, f2⟩ := selM_some e3 hsel
    obtain ⟨s', f3, f4⟩ := selM_some e4 hsel
    obtain ⟨_, c1, k1, k2, _⟩ := hb i b1 e1
    obtain ⟨_, c2, k3, k4, _⟩ := hb j b2 e2
    rw [f1] at k1; cases k1
    rw [f3] at k3; cases k3
    refine h.rel.inj s s' c1 c2 p q (fun hss => hij (hnd i j s f1 (by rw [hss]; exact f3))) k2 k4 f2 f4 ?_
    rcases hl' with hi | hi
    · exact .inl (hlo i s f1 hi)
    · exact .inr (hlo j s' f3 hi)
  · obtain ⟨g1, g2⟩ := h.rel.froz r o ys e
    refine ⟨g1, fun i p hi ep => ?_⟩
    obtain ⟨s, h1, h2⟩ := selM_some ep hsel
    exact g2 s p (hlo i s h1 hi) h2
  · intro t v e
    have hmem : (t, v) ∈ F' := by
      clear hF hb
      induction F' with
      | nil => cases e
      | cons x r ih =>
        obtain ⟨k, y⟩ := x
        simp only [Fr.get] at e
        cases hk' : (k == t) with
        | true =>
          rw [hk'] at e; cases e
          have : k = t := by simpa using hk'
          subst this; exact List.mem_cons_self ..
        | false => rw [hk'] at e; exact List.mem_cons_of_mem _ (ih e)
    obtain ⟨v0, h1, h2⟩ := hF (t, v) hmem
    obtain ⟨u, h3, h4⟩ := h.fr t v0 h1
    exact ⟨u, h3, h2 u h4⟩
  · have hi : i < M0.pl.length := (List.getElem?_eq_some_iff.1 e).1
    rw [selM_get (hk i hi) (hsel i (List.mem_of_getElem? (hk i hi)))]
    exact h.ext.le.at_ i p e
  · obtain ⟨s, h1, h2⟩ := selM_some e hsel
    refine h.ext.new s p ?_ h2
    rcases Nat.lt_or_ge s M0.pl.length with hs | hs
    · have := hnd s i s (hk s hs) h1
      omega
    · exact hs
theorem tr_gh {M : Mp} {sel : List Nat} {v u : Value} (h : Gh v) (hv : VR M v u) : VR (selM M sel) v u := h.le (M := M) (M' := selM M sel) (fun _ _ _ h => h) hv
theorem tr_ptr {M : Mp} {sel : List Nat} {i s o : Nat} {u : Value} (h : sel[i]? = some s) (hs : s < M.pl.length) (hv : VR M (.pointer (some ⟨s, o, none⟩)) u) : VR (selM M sel) (.pointer (some ⟨i, o, none⟩)) u := by
  cases hv with
  | ptr e => exact .ptr (by rw [selM_get h hs]; exact e)
theorem tr_slice {M : Mp} {sel : List Nat} {i s o n z : Nat} {u : Value} (h : sel[i]? = some s) (hs : s < M.pl.length) (hn : 0 < z) (hv : VR M (.slice (some ⟨s, o, none⟩) n z) u) : VR (selM M sel) (.slice (some ⟨i, o, none⟩) n z) u := by
  cases hv with
  | slice e a b => exact .slice (by rw [selM_get h hs]; exact e) a b
  | empt => omega
end Go.Proofs.YtgkicojmgokinaaGreatDoor.Ab
