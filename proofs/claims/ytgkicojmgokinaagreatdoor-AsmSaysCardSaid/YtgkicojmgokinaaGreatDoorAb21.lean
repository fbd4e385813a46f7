/- Trimmed: Ab21, AsmLib -/
import Derived.Test.YtgkicojmgokinaaGreatDoorAb19
import Derived.Test.YtgkicojmgokinaaGreatDoorShelf
import Derived.Test.YtgkicojmgokinaaGreatDoorAsmBits
import Derived.WalkSmall
import Derived.Lib.AppendIntMem
import Derived.Lib.SplitLaws
namespace Go.Proofs.YtgkicojmgokinaaGreatDoor.Ab
open Go Go.RowKit
set_option linter.unusedVariables false
set_option linter.unusedSimpArgs false
theorem AtG.retell0 {lo n : Nat} {M0 M : Mp} {w0 w : World} {F F' : Fr} {H H' : Heap} {a : Act} (h : AtG lo M0 w0 n M F H a w) (h0 : M0.pl = []) (sel : List Nat) (hsel : ∀ s ∈ sel, s < M.pl.length)
    (hnd : ∀ (i j s : Nat) (b b' : Blk), sel[i]? = some s → sel[j]? = some s → H'[i]? = some (some b) → H'[j]? = some (some b') → i = j) (hlo : ∀ (i s : Nat), sel[i]? = some s → lo ≤ i → lo ≤ s) (hl : H'.length = sel.length)
    (hb : ∀ (i : Nat) (b' : Blk), H'[i]? = some (some b') → ∃ s b, sel[i]? = some s ∧ H[s]? = some (some b) ∧ b'.elem = b.elem ∧ b'.view = none ∧ b'.cells.length ≤ b.cells.length ∧ ∀ us, VRs M b.cells us → VRs (selM M sel) b'.cells (us.take b'.cells.length))
    (hF : ∀ e ∈ F', ∃ v, F.get e.1 = some v ∧ ∀ u, VR M v u → VR (selM M sel) e.2 u) : AtG lo M0 w0 n (selM M sel) F' H' a w := by
  refine ⟨⟨by simp [selM, hl], fun i p e => ?_, fun i b' e => ?_, fun i p hi e => ?_, fun i j b1 b2 p q hij e1 e2 e3 e4 hl' => ?_, fun r o ys e => ?_, h.rel.gl⟩, ?_, h.size, h.defers, ⟨⟨fun i p e => ?_, fun r o ys e => h.ext.le.fz r o ys e⟩, fun i p hi e => ?_, fun r o ys e => h.ext.newfz r o ys e⟩, h.keep⟩
  · obtain ⟨s, _, h2⟩ := selM_some e hsel
    exact h.rel.dom s p h2
  · obtain ⟨s, b, h1, h2, h3, h4, h5, h6⟩ := hb i b' e
    obtain ⟨r, o, cs, t, fz, g1, g2, g3, g4, g5, g6⟩ := h.rel.blk s b h2
    refine ⟨r, o, cs, t, fz, by rw [selM_get h1 (hsel s (List.mem_of_getElem? h1))]; exact g1, g2, fun hi => by rw [h3]; exact g3 (hlo i s h1 hi), by omega, ?_, fun p o' hv => by rw [h4] at hv; cases hv⟩
    have := h6 _ g5
    rwa [List.take_take, Nat.min_eq_left h5] at this
  · obtain ⟨s, h1, h2⟩ := selM_some e hsel
    exact h.rel.own s p (hlo i s h1 hi) h2
  · obtain ⟨s, f1, f2⟩ := selM_some e3 hsel
    obtain ⟨s', f3, f4⟩ := selM_some e4 hsel
    obtain ⟨_, c1, k1, k2, _⟩ := hb i b1 e1
    obtain ⟨_, c2, k3, k4, _⟩ := hb j b2 e2
    rw [f1] at k1; cases k1
    rw [f3] at k3; cases k3
    refine h.rel.inj s s' c1 c2 p q (fun hss => hij (hnd i j s b1 b2 f1 (by rw [hss]; exact f3) e1 e2)) k2 k4 f2 f4 ?_
    rcases hl' with hi | hi
    · exact .inl (hlo i s f1 hi)
    · exact .inr (hlo j s' f3 hi)
  · obtain ⟨g1, g2⟩ := h.rel.froz r o ys e
    refine ⟨g1, fun i p hi ep => ?_⟩
    obtain ⟨s, h1, h2⟩ := selM_some ep hsel
    exact g2 s p (hlo i s h1 hi) h2
  · intro t v e
    obtain ⟨v0, h1, h2⟩ := hF (t, v) (Fr.get_mem e)
    obtain ⟨u, h3, h4⟩ := h.fr t v0 h1
    exact ⟨u, h3, h2 u h4⟩
  · rw [h0] at e; simp at e
  · obtain ⟨s, h1, h2⟩ := selM_some e hsel
    exact h.ext.new s p (by rw [h0]; exact Nat.zero_le _) h2
def FzV (H : Heap) (v v' : Value) : Prop :=
  (v' = v ∧ Gh v) ∨ (∃ j m z cells el, 0 < z ∧ v = .slice (some ⟨j, 0, none⟩) m z ∧ H[j]? = some (some ⟨cells, el, none⟩) ∧ m * z ≤ cells.length ∧ (∀ x ∈ cells, Gh x) ∧ v' = gs z (cells.take (m * z)) m) ∨ ∃ z, v = .slice none 0 0 ∧ v' = gs z [] 0
theorem AtG.freeze {lo n : Nat} {M0 M : Mp} {w0 w : World} {F F' : Fr} {H : Heap} {a : Act} (h : AtG lo M0 w0 n M F H a w) (h0 : M0.pl = []) (hz : lo = 0) (hF : ∀ e ∈ F', ∃ v, F.get e.1 = some v ∧ FzV H v e.2) : ∃ M', AtG lo M0 w0 n M' F' [] a w := by
  have new : ∀ (j : Nat) (p : Pl), M.pl[j]? = some p → w0.heap.size ≤ p.1 := fun j p hp => by
    rcases h.ext.new j p (by rw [h0]; exact Nat.zero_le _) hp with h1 | ⟨j', q, _, h2, _⟩
    · exact h1
    · rw [h0] at h2; simp at h2
  refine ⟨⟨[], fun r o ys => M.fz r o ys ∨ (w0.heap.size ≤ r ∧ Froz w r o ys)⟩, rel_fz (fun r o ys e => ?_) (h.rel.gl.mono (fun r o ys e => .inl e) fun _ _ _ _ => rfl) lo, ?_, h.size, h.defers, ⟨⟨fun i p e => ?_, fun r o ys e => .inl (h.ext.le.fz r o ys e)⟩, fun i p hi e => ?_, fun r o ys e => ?_⟩, h.keep⟩
  · rcases e with e | e
    · exact (h.rel.froz r o ys e).1
    · exact e.2
  · intro t v e
    obtain ⟨v0, h1, h2⟩ := hF (t, v) (Fr.get_mem e)
    obtain ⟨u, h3, h4⟩ := h.fr t v0 h1
    refine ⟨u, h3, ?_⟩
    simp only at h2
    rcases h2 with ⟨rfl, hg⟩ | ⟨j, m, z, cells, el, hz, rfl, hb, hm, hg, rfl⟩ | ⟨z, rfl, rfl⟩
    · exact hg.le (M' := ⟨[], fun r o ys => M.fz r o ys ∨ (w0.heap.size ≤ r ∧ Froz w r o ys)⟩) (fun r o ys e => Or.inl e) h4
    · obtain ⟨r', s', cs, t', fz, g1, g2, g3, g4, g5, g6⟩ := h.rel.blk j _ hb
      have hg5 := (Gh.vrs hg g5).le (Le.of_nil (M := ⟨[], fun r o ys => M.fz r o ys ∨ (w0.heap.size ≤ r ∧ Froz w r o ys)⟩) fun r o ys e => Or.inl e)
      simp only at g4 hg5
      have hcl : ((cs.drop s').take cells.length).length = cells.length := by simp; omega
      cases h4 with
      | empt => omega
      | slice hM k1 k2 =>
        rename_i r s N c
        rw [g1] at hM; cases hM
        refine .gsl (ys := (cs.drop s').take cells.length) (r := r') (o := s') (k := 0) (.inr ⟨new j _ g1, cs, t', fz, g2, by rw [hcl]; exact g4, by rw [hcl], by rw [(g3 (by omega)).2]; exact Unfz.zero _ _⟩) (by rw [hcl]; omega) k1 (by simp; omega) ?_
        rw [List.drop_zero]
        exact hg5.take _
    · cases h4; exact .gnil _
  · rw [h0] at e; simp at e
  · simp at e
  · rcases e with e | e
    · exact h.ext.newfz r o ys e
    · exact .inr (.inl e.1)
section
variable {P : Program} {lo n : Nat} {l : List Code} {F F1 F2 : Fr} {H H1 H2 : Heap} {e : Exit}
theorem GoOK.freeze (h : GoOK P 0 0 n l F H e F1 H1) (hF : ∀ e ∈ F2, ∃ v, F1.get e.1 = some v ∧ FzV H1 v e.2) : GoOK P 0 0 n l F H e F2 [] := by
  intro M0 w0 M a w hb ha Q rest hq
  refine h M0 w0 M a w hb ha Q rest fun M1 a1 w1 hA => ?_
  obtain ⟨M', hA'⟩ := hA.freeze (List.eq_nil_of_length_eq_zero hb) rfl hF
  exact hq M' a1 w1 hA'
theorem GoOK.pick (h : GoOK P lo 0 n l F H e F1 H1) (sel : List Nat) (hsel : ∀ s ∈ sel, s < H1.length) (hlo : lo = 0) (hl : H2.length = sel.length)
    (hnd : ∀ (i j s : Nat) (b b' : Blk), sel[i]? = some s → sel[j]? = some s → H2[i]? = some (some b) → H2[j]? = some (some b') → i = j)
    (hb : ∀ (i : Nat) (b' : Blk), H2[i]? = some (some b') → b'.view = none ∧ (∀ x ∈ b'.cells, Gh x) ∧ ∃ s, sel[i]? = some s ∧ H1[s]? = some (some b'))
    (hF : ∀ e ∈ F2, (F1.get e.1 = some e.2 ∧ Gh e.2) ∨ ∃ i s m z, 0 < z ∧ sel[i]? = some s ∧ F1.get e.1 = some (.slice (some ⟨s, 0, none⟩) m z) ∧ e.2 = .slice (some ⟨i, 0, none⟩) m z) : GoOK P lo 0 n l F H e F2 H2 := by
  intro M0 w0 M a w hbs ha Q rest hq
  refine h M0 w0 M a w hbs ha Q rest fun M1 a1 w1 hA => ?_
  have hl1 := hA.rel.len
  refine hq _ a1 w1 (hA.retell0 (List.eq_nil_of_length_eq_zero hbs) (F' := F2) (H' := H2) sel (fun s hs => by rw [hl1]; exact hsel s hs) hnd (fun _ _ _ _ => by omega) hl (fun i b' e => ?_) (fun x hx => ?_))
  · obtain ⟨h1, h2, s, h3, h4⟩ := hb i b' e
    refine ⟨s, b', h3, h4, rfl, h1, Nat.le_refl _, fun us hu => ?_⟩
    rw [List.take_of_length_le (by rw [← hu.length]; exact Nat.le_refl _)]
    exact (Gh.vrs h2 hu).le (Le.of_nil (M := selM M1 sel) fun _ _ _ h => h)
  · rcases hF x hx with ⟨h1, h2⟩ | ⟨i, s, m, z, hz, h1, h2, h3⟩
    · exact ⟨x.2, h1, fun u hu => tr_gh h2 hu⟩
    · refine ⟨_, h2, fun u hu => ?_⟩
      rw [h3]
      exact tr_slice h1 (by rw [hl1]; exact hsel s (List.mem_of_getElem? h1)) hz hu
theorem GoOK.one (h : GoOK P 0 0 n l F H e F1 H1) (j : Nat) {b : Blk} (hj : H1[j]? = some (some b)) (hv : b.view = none) (hg : ∀ x ∈ b.cells, Gh x)
    (hF : ∀ e ∈ F2, (F1.get e.1 = some e.2 ∧ Gh e.2) ∨ ∃ m z, 0 < z ∧ F1.get e.1 = some (.slice (some ⟨j, 0, none⟩) m z) ∧ e.2 = .slice (some ⟨0, 0, none⟩) m z) : GoOK P 0 0 n l F H e F2 [some b] :=
  h.pick [j] (fun s hs => by simp at hs; subst hs; exact (List.getElem?_eq_some_iff.1 hj).1) rfl rfl
    (fun i i' s b1 b2 h1 h2 _ _ => by
      have a1 := (List.getElem?_eq_some_iff.1 h1).1
      have a2 := (List.getElem?_eq_some_iff.1 h2).1
      simp at a1 a2; omega)
    (fun i b' e => by
      cases i with
      | zero => simp at e; subst e; exact ⟨hv, hg, j, rfl, hj⟩
      | succ i => simp at e)
    (fun x hx => by
      rcases hF x hx with h1 | ⟨m, z, hz, h1, h2⟩
      · exact .inl h1
      · exact .inr ⟨0, j, m, z, hz, rfl, h1, h2⟩)
end
end Go.Proofs.YtgkicojmgokinaaGreatDoor.Ab
namespace Go.Proofs.YtgkicojmgokinaaGreatDoor.Ab
open Go Go.RowKit
set_option linter.unusedVariables false
set_option linter.unusedSimpArgs false
def Same (ts : List Nat) (a a' : Act) : Prop := ∀ t ∈ ts, a'.tmps[t]? = a.tmps[t]?
theorem Same.refl (ts : List Nat) (a : Act) : Same ts a a := fun _ _ => rfl
theorem Same.trans {ts : List Nat} {a b c : Act} (h : Same ts a b) (k : Same ts b c) : Same ts a c := fun t ht => (k t ht).trans (h t ht)
section
variable {P : Program} {C : Ctx} (hC : CtxOK P C) {α : Type} {call : Call α} (hcall : CallsOK P call)
include hC hcall
end
end Go.Proofs.YtgkicojmgokinaaGreatDoor.Ab

namespace Go.Proofs.YtgkicojmgokinaaGreatDoor.Ab
open Go Go.RowKit
set_option linter.unusedVariables false
set_option linter.unusedSimpArgs false
structure GW (w : World) : Prop where
  max : ∃ m, w.cell? ⟨4, 0, none⟩ = some (.int .i64 m)
  syn : ∃ t v, w.cell? ⟨15, 0, none⟩ = some (.iface t v)
  rng : ∃ t v, w.cell? ⟨16, 0, none⟩ = some (.iface t v)
  tab : Lib.TabIs Tryz.prog w "internal/strconv.uint64pow10" .u64 Lib.pow10Tab
theorem Froz.cell {w : World} {r : Nat} {x : Value} (h : Froz w r 0 [x]) : w.cell? ⟨r, 0, none⟩ = some x := by
  obtain ⟨cs, t, f, h1, h2, h3, _⟩ := h
  simp only [World.cell?, h1]
  simp only [List.length_cons, List.length_nil, List.drop_zero] at h3
  cases cs with
  | nil => simp at h3
  | cons c cs => simp at h3; subst h3; rfl
theorem gw_of {Z : Nat → Nat → List Value → Prop} {w : World} (hZ : ∀ r o ys, Z r o ys → Froz w r o ys) (hG : Globs Z w) : GW w := by
  obtain ⟨_, ⟨m, g1⟩, ⟨t, v, g2⟩, ⟨t', v', g3⟩, g4, tt, f, g5⟩ := hG
  refine ⟨⟨m, (hZ _ _ _ g1).cell⟩, ⟨t, v, (hZ _ _ _ g2).cell⟩, ⟨t', v', (hZ _ _ _ g3).cell⟩, ?_⟩
  unfold Lib.TabIs World.var?
  have hg : Tryz.prog.globalNamed "internal/strconv.uint64pow10" = some 5 := by kernel_rfl
  simp [hg, g5]
theorem PureOK.lib {f : FuncId} {args : List Value} {v : Value} (ha : args.all plain = true) (hv : plain v = true)
    (h : ∀ w, GW w → Calls Tryz.prog f args.toArray w fun e w' => e = .returned v ∧ Below w.heap.size w w') : PureOK Tryz.prog f args v := by
  intro Z w rargs hZ hG hr
  have e : rargs = args := plains_eq (fun _ _ => plain_eq) ha hr
  subst e
  exact (h w (gw_of hZ hG)).mono fun e w' ⟨he, hb⟩ => ⟨Z, v, he, hb, fun _ _ _ h => h, fun _ _ _ h => .inl h, plain_VR hv⟩
def numErr : Value := .iface 180 opq
theorem PureOK.libErr {f : FuncId} {args : List Value} {k : IntKind} {z : Int} (ha : args.all plain = true)
    (h : ∀ w, GW w → Calls Tryz.prog f args.toArray w fun e w' => (∃ N, e = .returned (.tuple #[.int k z, .iface 180 (.pointer (some ⟨N, 0, none⟩))])) ∧ Below w.heap.size w w') : PureOK Tryz.prog f args (.tuple #[.int k z, numErr]) := by
  intro Z w rargs hZ hG hr
  have e : rargs = args := plains_eq (fun _ _ => plain_eq) ha hr
  subst e
  exact (h w (gw_of hZ hG)).mono fun e w' ⟨⟨N, he⟩, hb⟩ => ⟨Z, _, he, hb, fun _ _ _ h => h, fun _ _ _ h => .inl h,
    .tuple (xs := [_, _]) (xs' := [_, _]) (.cons (.int _ _) (.cons (.iface (.opq _ rfl)) .nil))⟩
abbrev sv (l : List UInt8) : Value := .string ⟨⟨l⟩⟩
abbrev bs (l : List UInt8) : ByteArray := ⟨⟨l⟩⟩
theorem bs_size (l : List UInt8) : (bs l).size = l.length := rfl
def errOf (ok : Bool) : Value := bif ok then .nilIface else numErr
theorem cutOK (l p : List UInt8) (hl : l.length < 4294967281) : PureOK Tryz.prog 37 [sv l, sv p] (.tuple #[sv (Lib.cut l p).1, sv (Lib.cut l p).2.1, .bool (Lib.cut l p).2.2]) :=
  PureOK.lib rfl rfl fun w g => by
    obtain ⟨m, hm⟩ := g.max
    exact (Tryz.strings_Cut (bs l) (bs p) m w hl hm).mono fun e w' ⟨he, n, hw⟩ => ⟨he, by rw [hw]; exact below_drewN (Below.refl _ _) n⟩
theorem cutPrefixOK (l p : List UInt8) : PureOK Tryz.prog 102 [sv l, sv p] (.tuple #[sv (Lib.trimPrefix l p), .bool (Lib.hasPrefix l p)]) :=
  PureOK.lib rfl rfl fun w g => (Tryz.strings_CutPrefix (bs l) (bs p) w).mono fun e w' ⟨he, hw⟩ => ⟨he, by rw [hw]; exact Below.refl _ _⟩
theorem cutSuffixOK (l p : List UInt8) (hl : l.length < 4294967281) : PureOK Tryz.prog 39 [sv l, sv p] (.tuple #[sv (Lib.trimSuffix l p), .bool (Lib.hasSuffix l p)]) :=
  PureOK.lib rfl rfl fun w g => (Tryz.strings_CutSuffix (bs l) (bs p) w (by rw [bs_size]; omega)).mono fun e w' ⟨he, hw⟩ => ⟨he, by rw [hw]; exact Below.refl _ _⟩
theorem itoaOK (n : Int) (h0 : -9223372036854775808 ≤ n) (h1 : n ≤ 9223372036854775807) : PureOK Tryz.prog 34 [.int .i64 n] (sv (Lib.itoa n)) :=
  PureOK.lib rfl rfl fun w g => (Tryz.strconv_Itoa n h0 h1 w g.tab).mono fun e w' ⟨he, k, os, hw⟩ => ⟨he, by rw [hw]; exact Lib.below_grow _ w (Nat.le_refl _) k os⟩
theorem formatOK (u : Nat) (hu : u < 18446744073709551616) : PureOK Tryz.prog 91 [.int .u64 u, .int .i64 10] (sv (Lib.decDigits u)) :=
  PureOK.lib rfl rfl fun w g => (formatUint u hu w g.tab).mono fun e w' ⟨he, k, os, hw⟩ => ⟨he, by rw [hw]; exact Lib.below_grow _ w (Nat.le_refl _) k os⟩
def atoiR (l : List UInt8) : Int × Bool := match Lib.atoiAll l with
  | .ok v => (v, true)
  | .range => (Lib.atoiSat l, false)
  | _ => (0, false)
theorem below_bytes {w w' : World} {t : ByteArray} (h : w' = w ∨ ∃ t, w' = Lib.bytesWorld w 5 t) : Below w.heap.size w w' := by
  rcases h with rfl | ⟨t, rfl⟩
  · exact Below.refl _ _
  · exact Lib.bytesWorld_below _ _ _
theorem atoiOK (l : List UInt8) (hl : l.length < 4294967281) : PureOK Tryz.prog 103 [sv l] (.tuple #[.int .i64 (atoiR l).1, errOf (atoiR l).2]) := by
  unfold atoiR
  cases h : Lib.atoiAll l with
  | ok v => exact PureOK.lib rfl rfl fun w g => (Tryz.strconv_Atoi_ok (bs l) (by rw [bs_size]; omega) v h w).mono fun e w' ⟨he, hw⟩ => ⟨he, below_bytes (t := bs l) hw⟩
  | range =>
    exact PureOK.libErr rfl fun w g => by
      obtain ⟨t, v, hv⟩ := g.rng
      exact (Tryz.strconv_Atoi_range (bs l) (by rw [bs_size]; omega) h _ w hv (.inr ⟨t, v, rfl⟩)).mono fun e w' ⟨N, he, _, _, hb⟩ => ⟨⟨N, he⟩, hb⟩
  | _ =>
    exact PureOK.libErr rfl fun w g => by
      obtain ⟨t, v, hv⟩ := g.syn
      exact (Tryz.strconv_Atoi_syntax (bs l) (by rw [bs_size]; omega) h _ w hv (.inr ⟨t, v, rfl⟩)).mono fun e w' ⟨N, he, _, _, hb⟩ => ⟨⟨N, he⟩, hb⟩
def pintR (l : List UInt8) : Int × Bool := match Lib.parseIntB 64 l with
  | .ok v => (v, true)
  | .range => (Lib.intSat 64 l, false)
  | _ => (0, false)
theorem pintOK (l : List UInt8) (hl : l.length < 4294967281) : PureOK Tryz.prog 104 [sv l, .int .i64 10, .int .i64 64] (.tuple #[.int .i64 (pintR l).1, errOf (pintR l).2]) := by
  unfold pintR
  cases h : Lib.parseIntB 64 l with
  | ok v => exact PureOK.lib rfl rfl fun w g => (Tryz.strconv_ParseInt_10_at64_ok (bs l) (by rw [bs_size]; omega) v h w).mono fun e w' ⟨he, hw⟩ => ⟨he, below_bytes (t := bs l) hw⟩
  | range =>
    exact PureOK.libErr rfl fun w g => by
      obtain ⟨t, v, hv⟩ := g.rng
      exact (Tryz.strconv_ParseInt_10_at64_range (bs l) (by rw [bs_size]; omega) h _ w hv (.inr ⟨t, v, rfl⟩)).mono fun e w' ⟨N, he, _, _, hb⟩ => ⟨⟨N, he⟩, hb⟩
  | _ =>
    exact PureOK.libErr rfl fun w g => by
      obtain ⟨t, v, hv⟩ := g.syn
      exact (Tryz.strconv_ParseInt_10_at64_syntax (bs l) (by rw [bs_size]; omega) h _ w hv (.inr ⟨t, v, rfl⟩)).mono fun e w' ⟨N, he, _, _, hb⟩ => ⟨⟨N, he⟩, hb⟩
def hexR (l : List UInt8) : Int × Bool := match parseHex l with
  | .ok v => ((v : Int), true)
  | .range => (4095, false)
  | _ => (0, false)
theorem hexOK (l : List UInt8) (hl : l.length < 4294967281) : PureOK Tryz.prog 105 [sv l, .int .i64 16, .int .i64 12] (.tuple #[.int .u64 (hexR l).1, errOf (hexR l).2]) := by
  unfold hexR
  cases h : parseHex l with
  | ok v => exact PureOK.lib rfl rfl fun w g => parseUint16_ok (bs l) (by rw [bs_size]; omega) v h w
  | range =>
    exact PureOK.libErr rfl fun w g => by
      obtain ⟨t, v, hv⟩ := g.rng
      exact parseUint16_range (bs l) (by rw [bs_size]; omega) h t v w hv
  | _ =>
    exact PureOK.libErr rfl fun w g => by
      obtain ⟨t, v, hv⟩ := g.syn
      exact parseUint16_syntax (bs l) (by rw [bs_size]; omega) h t v w hv
theorem Froz.at_ {w : World} {r o : Nat} {ys : List Value} (h : Froz w r o ys) {i : Nat} {x : Value} (e : ys[i]? = some x) : w.cell? ⟨r, o + i, none⟩ = some x := by
  obtain ⟨cs, t, f, h1, h2, h3, _⟩ := h
  have hi : i < ys.length := (List.getElem?_eq_some_iff.1 e).1
  simp only [World.cell?, h1]
  rw [← h3, List.getElem?_take_of_lt hi, List.getElem?_drop] at e
  simpa using e
theorem sv_plain (xs : List (List UInt8)) : (xs.map sv).all plain = true := by
  induction xs with
  | nil => rfl
  | cons x xs ih => rw [List.map_cons, List.all_cons, ih]; rfl
theorem joinOK (xs : List (List UInt8)) (p : List UInt8) (hne : xs ≠ []) (hl : (Lib.join xs p).length ≤ 140737488355328) (hn : xs.length ≤ 140737488355328) :
    PureOK Tryz.prog 28 [gs 1 (xs.map sv) xs.length, sv p] (sv (Lib.join xs p)) := by
  intro Z w rargs hZ hG hr
  cases hr with
  | cons a b =>
  cases b with
  | cons b c =>
  cases c
  have e2 := plain_eq (v := sv p) rfl b
  subst e2
  rcases gs_inv a with ⟨h, _, _⟩ | ⟨h, _, _⟩ | ⟨ys, r, o, j, c, f1, f2, f3, f4, f5, rfl⟩
  · exact (hne (by simpa using h)).elim
  · exact (hne (by simpa using h)).elim
  · have e := plains_eq (fun _ _ => plain_eq) (sv_plain xs) f5
    have hF := hZ _ _ _ f1
    have hlen : xs.length * 1 = xs.length := Nat.mul_one _
    have hcells : ∀ (i : Nat) x, (xs.map bs)[i]? = some x → w.cell? ⟨r, o + j + i, none⟩ = some (.string x) := by
      intro i x hx
      have hi : i < xs.length := by have := (List.getElem?_eq_some_iff.1 hx).1; simpa using this
      have h1 : (xs.map sv)[i]? = some (.string x) := by
        rw [List.getElem?_map] at hx ⊢
        cases hxi : xs[i]? with
        | none => rw [hxi] at hx; cases hx
        | some y => rw [hxi] at hx; cases hx; rfl
      rw [← e, List.getElem?_take_of_lt (by rw [hlen]; exact hi), List.getElem?_drop] at h1
      rw [Nat.add_assoc]
      exact hF.at_ h1
    have := Tryz.strings_Join r (o + j) c (xs.map bs) (bs p) w hcells hF.lt (by simpa using hn) (by simpa using f3) (by rw [List.map_map]; simpa [Function.comp_def] using hl)
    rw [List.length_map, List.map_map] at this
    refine this.mono fun e w' ⟨he, hb⟩ => ⟨Z, _, he, hb, fun _ _ _ h => h, fun _ _ _ h => .inl h, ?_⟩
    have e3 : (List.map ((fun x : ByteArray => x.data.toList) ∘ bs) xs) = xs := by simp [Function.comp_def]
    show VR _ (sv (Lib.join xs p)) (.string ⟨(Lib.join (List.map ((fun x : ByteArray => x.data.toList) ∘ bs) xs) p).toArray⟩)
    rw [e3]
    exact .str _
def splitL (l p : List UInt8) : List (List UInt8) := Lib.splitK p 0 (Lib.countB (bs l) (bs p)) l
theorem splitOK (l p : List UInt8) (hl : l.length < 4294967281) (hp : 1 ≤ p.length) : PureOK Tryz.prog 40 [sv l, sv p] (gs 1 ((splitL l p).map sv) (splitL l p).length) := by
  intro Z w rargs hZ hG hr
  have e : rargs = [sv l, sv p] := plains_eq (p := plain) (fun _ _ => plain_eq) rfl hr
  subst e
  obtain ⟨m, hm⟩ := (gw_of hZ hG).max
  have hdata := Lib.splitB_data (bs p) 0 (Lib.countB (bs l) (bs p)) (bs l)
  have hlen := Lib.splitB_all (bs p) hp 0 _ (bs l) rfl
  have hlen2 : (splitL l p).length = Lib.countB (bs l) (bs p) + 1 := by
    have := congrArg List.length hdata
    rw [List.length_map, hlen] at this
    exact this.symm
  refine (Tryz.strings_Split (bs l) (bs p) m w hl hm hp).mono fun e w' ⟨he, hw⟩ => ?_
  have hmap : (Lib.splitB (bs p) 0 (Lib.countB (bs l) (bs p)) (bs l)).map Value.string = (splitL l p).map sv := by
    show _ = (Lib.splitK p 0 (Lib.countB (bs l) (bs p)) l).map sv
    have hd : List.map (fun x : ByteArray => x.data.toList) (Lib.splitB (bs p) 0 (Lib.countB (bs l) (bs p)) (bs l)) = Lib.splitK p 0 (Lib.countB (bs l) (bs p)) l := hdata
    rw [← hd, List.map_map]
    rfl
  rw [hmap] at hw
  have hb : Below w.heap.size w w' := by rw [hw]; exact ⟨rfl, rfl, rfl, by simp, fun k hk => Below.heap_alloc w _ k hk⟩
  have hF : Froz w' w.heap.size 0 ((splitL l p).map sv) := by
    rw [hw]
    exact ⟨_, 9, (0, 0), heap_alloc_new w _, by omega, by rw [List.drop_zero, List.take_length], Unfz.zero _ _⟩
  refine ⟨fun r o ys => Z r o ys ∨ (r = w.heap.size ∧ o = 0 ∧ ys = (splitL l p).map sv), _, he, hb, fun r o ys h => .inl h, fun r o ys h => ?_, ?_⟩
  · rcases h with h | ⟨rfl, rfl, rfl⟩
    · exact .inl h
    · exact .inr ⟨Nat.le_refl _, hF⟩
  · have hn : (splitL l p).length * 1 = (splitL l p).length := Nat.mul_one _
    have := VR.gsl (M := ⟨[], fun r o ys => Z r o ys ∨ (r = w.heap.size ∧ o = 0 ∧ ys = (splitL l p).map sv)⟩) (xs := (splitL l p).map sv) (ys := (splitL l p).map sv) (r := w.heap.size) (o := 0) (k := 0) (n := (splitL l p).length) (c := (splitL l p).length) (z := 1)
      (.inr ⟨rfl, rfl, rfl⟩) (by simp) (Nat.le_refl _) (by simp) (by
        rw [List.drop_zero, List.take_of_length_le (by simp)]
        exact plains (fun _ => plain_VR) (sv_plain _))
    rw [hlen2] at this ⊢
    exact this
end Go.Proofs.YtgkicojmgokinaaGreatDoor.Ab
