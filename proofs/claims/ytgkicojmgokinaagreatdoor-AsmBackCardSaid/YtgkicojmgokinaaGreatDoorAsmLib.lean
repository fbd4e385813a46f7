/- What Go's library answers, told as calls that write nothing that was there. -/
import Derived.Test.YtgkicojmgokinaaGreatDoorShelf
import Derived.Test.YtgkicojmgokinaaGreatDoorAsmFormat
import Derived.Test.YtgkicojmgokinaaGreatDoorAsmHex
import Derived.Test.YtgkicojmgokinaaGreatDoorAb21
import Derived.WalkSmall
import Derived.Lib.AppendIntMem
import Derived.Lib.SplitLaws
namespace Go.Proofs.YtgkicojmgokinaaGreatDoor.Ab
open Go Go.RowKit
set_option linter.unusedVariables false
set_option linter.unusedSimpArgs false
/-- What the library's functions ask of the world. -/
structure GW (w : World) : Prop where
  max : ∃ m, w.cell? ⟨4, 0, none⟩ = some (.int .i64 m)
  syn : ∃ t v, w.cell? ⟨15, 0, none⟩ = some (.iface t v)
  rng : ∃ t v, w.cell? ⟨16, 0, none⟩ = some (.iface t v)
  tab : Lib.TabIs Tryz.prog w "internal/strconv.uint64pow10" .u64 Lib.pow10Tab
theorem Froz.cell {w : World} {r : Nat} {x : Value} (h : Froz w r 0 [x]) : w.cell? ⟨r, 0, none⟩ = some x := by
  obtain ⟨cs, t, f, h1, h2, h3, _⟩ := h
  simp only [World.cell?, h1]
  simp only [List.length_cons, List.length_nil, List.drop_zero] at h3
  cases cs with
  | nil => simp at h3
  | cons c cs => simp at h3; subst h3; rfl
theorem gw_of {Z : Nat → Nat → List Value → Prop} {w : World} (hZ : ∀ r o ys, Z r o ys → Froz w r o ys) (hG : Globs Z w) : GW w := by
  obtain ⟨_, ⟨m, g1⟩, ⟨t, v, g2⟩, ⟨t', v', g3⟩, g4, tt, f, g5⟩ := hG
  refine ⟨⟨m, (hZ _ _ _ g1).cell⟩, ⟨t, v, (hZ _ _ _ g2).cell⟩, ⟨t', v', (hZ _ _ _ g3).cell⟩, ?_⟩
  unfold Lib.TabIs World.var?
  have hg : Tryz.prog.globalNamed "internal/strconv.uint64pow10" = some 5 := by kernel_rfl
  simp [hg, g5]
theorem PureOK.lib {f : FuncId} {args : List Value} {v : Value} (ha : args.all plain = true) (hv : plain v = true)
    (h : ∀ w, GW w → Calls Tryz.prog f args.toArray w fun e w' => e = .returned v ∧ Below w.heap.size w w') : PureOK Tryz.prog f args v := by
  intro Z w rargs hZ hG hr
  have e : rargs = args := plains_eq (fun _ _ => plain_eq) ha hr
  subst e
  exact (h w (gw_of hZ hG)).mono fun e w' ⟨he, hb⟩ => ⟨Z, v, he, hb, fun _ _ _ h => h, fun _ _ _ h => .inl h, plain_VR hv⟩
/-- An error that is none of ours: of that none is told but its type. -/
def numErr : Value := .iface 180 opq
theorem PureOK.libErr {f : FuncId} {args : List Value} {k : IntKind} {z : Int} (ha : args.all plain = true)
    (h : ∀ w, GW w → Calls Tryz.prog f args.toArray w fun e w' => (∃ N, e = .returned (.tuple #[.int k z, .iface 180 (.pointer (some ⟨N, 0, none⟩))])) ∧ Below w.heap.size w w') : PureOK Tryz.prog f args (.tuple #[.int k z, numErr]) := by
  intro Z w rargs hZ hG hr
  have e : rargs = args := plains_eq (fun _ _ => plain_eq) ha hr
  subst e
  exact (h w (gw_of hZ hG)).mono fun e w' ⟨⟨N, he⟩, hb⟩ => ⟨Z, _, he, hb, fun _ _ _ h => h, fun _ _ _ h => .inl h,
    .tuple (xs := [_, _]) (xs' := [_, _]) (.cons (.int _ _) (.cons (.iface (.opq _ rfl)) .nil))⟩
/-- A text by its bytes. -/
abbrev sv (l : List UInt8) : Value := .string ⟨⟨l⟩⟩
abbrev bs (l : List UInt8) : ByteArray := ⟨⟨l⟩⟩
theorem bs_size (l : List UInt8) : (bs l).size = l.length := rfl
/-- What is beside a number that was read: nil, or an error. -/
def errOf (ok : Bool) : Value := bif ok then .nilIface else numErr
theorem cutOK (l p : List UInt8) (hl : l.length < 4294967281) : PureOK Tryz.prog 37 [sv l, sv p] (.tuple #[sv (Lib.cut l p).1, sv (Lib.cut l p).2.1, .bool (Lib.cut l p).2.2]) :=
  PureOK.lib rfl rfl fun w g => by
    obtain ⟨m, hm⟩ := g.max
    exact (Tryz.strings_Cut (bs l) (bs p) m w hl hm).mono fun e w' ⟨he, n, hw⟩ => ⟨he, by rw [hw]; exact below_drewN (Below.refl _ _) n⟩
theorem cutPrefixOK (l p : List UInt8) : PureOK Tryz.prog 102 [sv l, sv p] (.tuple #[sv (Lib.trimPrefix l p), .bool (Lib.hasPrefix l p)]) :=
  PureOK.lib rfl rfl fun w g => (Tryz.strings_CutPrefix (bs l) (bs p) w).mono fun e w' ⟨he, hw⟩ => ⟨he, by rw [hw]; exact Below.refl _ _⟩
theorem cutSuffixOK (l p : List UInt8) (hl : l.length < 4294967281) : PureOK Tryz.prog 39 [sv l, sv p] (.tuple #[sv (Lib.trimSuffix l p), .bool (Lib.hasSuffix l p)]) :=
  PureOK.lib rfl rfl fun w g => (Tryz.strings_CutSuffix (bs l) (bs p) w (by rw [bs_size]; omega)).mono fun e w' ⟨he, hw⟩ => ⟨he, by rw [hw]; exact Below.refl _ _⟩
theorem itoaOK (n : Int) (h0 : -9223372036854775808 ≤ n) (h1 : n ≤ 9223372036854775807) : PureOK Tryz.prog 34 [.int .i64 n] (sv (Lib.itoa n)) :=
  PureOK.lib rfl rfl fun w g => (Tryz.strconv_Itoa n h0 h1 w g.tab).mono fun e w' ⟨he, k, os, hw⟩ => ⟨he, by rw [hw]; exact Lib.below_grow _ w (Nat.le_refl _) k os⟩
theorem formatOK (u : Nat) (hu : u < 18446744073709551616) : PureOK Tryz.prog 91 [.int .u64 u, .int .i64 10] (sv (Lib.decDigits u)) :=
  PureOK.lib rfl rfl fun w g => (formatUint u hu w g.tab).mono fun e w' ⟨he, k, os, hw⟩ => ⟨he, by rw [hw]; exact Lib.below_grow _ w (Nat.le_refl _) k os⟩
/-- What Atoi answers: the number; whether there is no error. -/
def atoiR (l : List UInt8) : Int × Bool := match Lib.atoiAll l with
  | .ok v => (v, true)
  | .range => (Lib.atoiSat l, false)
  | _ => (0, false)
theorem below_bytes {w w' : World} {t : ByteArray} (h : w' = w ∨ ∃ t, w' = Lib.bytesWorld w 5 t) : Below w.heap.size w w' := by
  rcases h with rfl | ⟨t, rfl⟩
  · exact Below.refl _ _
  · exact Lib.bytesWorld_below _ _ _
theorem atoiOK (l : List UInt8) (hl : l.length < 4294967281) : PureOK Tryz.prog 103 [sv l] (.tuple #[.int .i64 (atoiR l).1, errOf (atoiR l).2]) := by
  unfold atoiR
  cases h : Lib.atoiAll l with
  | ok v => exact PureOK.lib rfl rfl fun w g => (Tryz.strconv_Atoi_ok (bs l) (by rw [bs_size]; omega) v h w).mono fun e w' ⟨he, hw⟩ => ⟨he, below_bytes (t := bs l) hw⟩
  | range =>
    exact PureOK.libErr rfl fun w g => by
      obtain ⟨t, v, hv⟩ := g.rng
      exact (Tryz.strconv_Atoi_range (bs l) (by rw [bs_size]; omega) h _ w hv (.inr ⟨t, v, rfl⟩)).mono fun e w' ⟨N, he, _, _, hb⟩ => ⟨⟨N, he⟩, hb⟩
  | _ =>
    exact PureOK.libErr rfl fun w g => by
      obtain ⟨t, v, hv⟩ := g.syn
      exact (Tryz.strconv_Atoi_syntax (bs l) (by rw [bs_size]; omega) h _ w hv (.inr ⟨t, v, rfl⟩)).mono fun e w' ⟨N, he, _, _, hb⟩ => ⟨⟨N, he⟩, hb⟩
/-- What ParseInt(s, 10, 64) answers. -/
def pintR (l : List UInt8) : Int × Bool := match Lib.parseIntB 64 l with
  | .ok v => (v, true)
  | .range => (Lib.intSat 64 l, false)
  | _ => (0, false)
theorem pintOK (l : List UInt8) (hl : l.length < 4294967281) : PureOK Tryz.prog 104 [sv l, .int .i64 10, .int .i64 64] (.tuple #[.int .i64 (pintR l).1, errOf (pintR l).2]) := by
  unfold pintR
  cases h : Lib.parseIntB 64 l with
  | ok v => exact PureOK.lib rfl rfl fun w g => (Tryz.strconv_ParseInt_10_at64_ok (bs l) (by rw [bs_size]; omega) v h w).mono fun e w' ⟨he, hw⟩ => ⟨he, below_bytes (t := bs l) hw⟩
  | range =>
    exact PureOK.libErr rfl fun w g => by
      obtain ⟨t, v, hv⟩ := g.rng
      exact (Tryz.strconv_ParseInt_10_at64_range (bs l) (by rw [bs_size]; omega) h _ w hv (.inr ⟨t, v, rfl⟩)).mono fun e w' ⟨N, he, _, _, hb⟩ => ⟨⟨N, he⟩, hb⟩
  | _ =>
    exact PureOK.libErr rfl fun w g => by
      obtain ⟨t, v, hv⟩ := g.syn
      exact (Tryz.strconv_ParseInt_10_at64_syntax (bs l) (by rw [bs_size]; omega) h _ w hv (.inr ⟨t, v, rfl⟩)).mono fun e w' ⟨N, he, _, _, hb⟩ => ⟨⟨N, he⟩, hb⟩
/-- What ParseUint(s, 16, 12) answers. -/
def hexR (l : List UInt8) : Int × Bool := match parseHex l with
  | .ok v => ((v : Int), true)
  | .range => (4095, false)
  | _ => (0, false)
theorem hexOK (l : List UInt8) (hl : l.length < 4294967281) : PureOK Tryz.prog 105 [sv l, .int .i64 16, .int .i64 12] (.tuple #[.int .u64 (hexR l).1, errOf (hexR l).2]) := by
  unfold hexR
  cases h : parseHex l with
  | ok v => exact PureOK.lib rfl rfl fun w g => parseUint16_ok (bs l) (by rw [bs_size]; omega) v h w
  | range =>
    exact PureOK.libErr rfl fun w g => by
      obtain ⟨t, v, hv⟩ := g.rng
      exact parseUint16_range (bs l) (by rw [bs_size]; omega) h t v w hv
  | _ =>
    exact PureOK.libErr rfl fun w g => by
      obtain ⟨t, v, hv⟩ := g.syn
      exact parseUint16_syntax (bs l) (by rw [bs_size]; omega) h t v w hv
theorem Froz.at_ {w : World} {r o : Nat} {ys : List Value} (h : Froz w r o ys) {i : Nat} {x : Value} (e : ys[i]? = some x) : w.cell? ⟨r, o + i, none⟩ = some x := by
  obtain ⟨cs, t, f, h1, h2, h3, _⟩ := h
  have hi : i < ys.length := (List.getElem?_eq_some_iff.1 e).1
  simp only [World.cell?, h1]
  rw [← h3, List.getElem?_take_of_lt hi, List.getElem?_drop] at e
  simpa using e
theorem sv_plain (xs : List (List UInt8)) : (xs.map sv).all plain = true := by
  induction xs with
  | nil => rfl
  | cons x xs ih => rw [List.map_cons, List.all_cons, ih]; rfl
theorem joinOK (xs : List (List UInt8)) (p : List UInt8) (hne : xs ≠ []) (hl : (Lib.join xs p).length ≤ 140737488355328) (hn : xs.length ≤ 140737488355328) :
    PureOK Tryz.prog 28 [gs 1 (xs.map sv) xs.length, sv p] (sv (Lib.join xs p)) := by
  intro Z w rargs hZ hG hr
  cases hr with
  | cons a b =>
  cases b with
  | cons b c =>
  cases c
  have e2 := plain_eq (v := sv p) rfl b
  subst e2
  rcases gs_inv a with ⟨h, _, _⟩ | ⟨h, _, _⟩ | ⟨ys, r, o, j, c, f1, f2, f3, f4, f5, rfl⟩
  · exact (hne (by simpa using h)).elim
  · exact (hne (by simpa using h)).elim
  · have e := plains_eq (fun _ _ => plain_eq) (sv_plain xs) f5
    have hF := hZ _ _ _ f1
    have hlen : xs.length * 1 = xs.length := Nat.mul_one _
    have hcells : ∀ (i : Nat) x, (xs.map bs)[i]? = some x → w.cell? ⟨r, o + j + i, none⟩ = some (.string x) := by
      intro i x hx
      have hi : i < xs.length := by have := (List.getElem?_eq_some_iff.1 hx).1; simpa using this
      have h1 : (xs.map sv)[i]? = some (.string x) := by
        rw [List.getElem?_map] at hx ⊢
        cases hxi : xs[i]? with
        | none => rw [hxi] at hx; cases hx
        | some y => rw [hxi] at hx; cases hx; rfl
      rw [← e, List.getElem?_take_of_lt (by rw [hlen]; exact hi), List.getElem?_drop] at h1
      rw [Nat.add_assoc]
      exact hF.at_ h1
    have := Tryz.strings_Join r (o + j) c (xs.map bs) (bs p) w hcells hF.lt (by simpa using hn) (by simpa using f3) (by rw [List.map_map]; simpa [Function.comp_def] using hl)
    rw [List.length_map, List.map_map] at this
    refine this.mono fun e w' ⟨he, hb⟩ => ⟨Z, _, he, hb, fun _ _ _ h => h, fun _ _ _ h => .inl h, ?_⟩
    have e3 : (List.map ((fun x : ByteArray => x.data.toList) ∘ bs) xs) = xs := by simp [Function.comp_def]
    show VR _ (sv (Lib.join xs p)) (.string ⟨(Lib.join (List.map ((fun x : ByteArray => x.data.toList) ∘ bs) xs) p).toArray⟩)
    rw [e3]
    exact .str _
/-- What Split answers. -/
def splitL (l p : List UInt8) : List (List UInt8) := Lib.splitK p 0 (Lib.countB (bs l) (bs p)) l
theorem splitOK (l p : List UInt8) (hl : l.length < 4294967281) (hp : 1 ≤ p.length) : PureOK Tryz.prog 40 [sv l, sv p] (gs 1 ((splitL l p).map sv) (splitL l p).length) := by
  intro Z w rargs hZ hG hr
  have e : rargs = [sv l, sv p] := plains_eq (p := plain) (fun _ _ => plain_eq) rfl hr
  subst e
  obtain ⟨m, hm⟩ := (gw_of hZ hG).max
  have hdata := Lib.splitB_data (bs p) 0 (Lib.countB (bs l) (bs p)) (bs l)
  have hlen := Lib.splitB_all (bs p) hp 0 _ (bs l) rfl
  have hlen2 : (splitL l p).length = Lib.countB (bs l) (bs p) + 1 := by
    have := congrArg List.length hdata
    rw [List.length_map, hlen] at this
    exact this.symm
  refine (Tryz.strings_Split (bs l) (bs p) m w hl hm hp).mono fun e w' ⟨he, hw⟩ => ?_
  have hmap : (Lib.splitB (bs p) 0 (Lib.countB (bs l) (bs p)) (bs l)).map Value.string = (splitL l p).map sv := by
    show _ = (Lib.splitK p 0 (Lib.countB (bs l) (bs p)) l).map sv
    have hd : List.map (fun x : ByteArray => x.data.toList) (Lib.splitB (bs p) 0 (Lib.countB (bs l) (bs p)) (bs l)) = Lib.splitK p 0 (Lib.countB (bs l) (bs p)) l := hdata
    rw [← hd, List.map_map]
    rfl
  rw [hmap] at hw
  have hb : Below w.heap.size w w' := by rw [hw]; exact ⟨rfl, rfl, rfl, by simp, fun k hk => Below.heap_alloc w _ k hk⟩
  have hF : Froz w' w.heap.size 0 ((splitL l p).map sv) := by
    rw [hw]
    exact ⟨_, 9, (0, 0), heap_alloc_new w _, by omega, by rw [List.drop_zero, List.take_length], Unfz.zero _ _⟩
  refine ⟨fun r o ys => Z r o ys ∨ (r = w.heap.size ∧ o = 0 ∧ ys = (splitL l p).map sv), _, he, hb, fun r o ys h => .inl h, fun r o ys h => ?_, ?_⟩
  · rcases h with h | ⟨rfl, rfl, rfl⟩
    · exact .inl h
    · exact .inr ⟨Nat.le_refl _, hF⟩
  · have hn : (splitL l p).length * 1 = (splitL l p).length := Nat.mul_one _
    have := VR.gsl (M := ⟨[], fun r o ys => Z r o ys ∨ (r = w.heap.size ∧ o = 0 ∧ ys = (splitL l p).map sv)⟩) (xs := (splitL l p).map sv) (ys := (splitL l p).map sv) (r := w.heap.size) (o := 0) (k := 0) (n := (splitL l p).length) (c := (splitL l p).length) (z := 1)
      (.inr ⟨rfl, rfl, rfl⟩) (by simp) (Nat.le_refl _) (by simp) (by
        rw [List.drop_zero, List.take_of_length_le (by simp)]
        exact plains (fun _ => plain_VR) (sv_plain _))
    rw [hlen2] at this ⊢
    exact this
end Go.Proofs.YtgkicojmgokinaaGreatDoor.Ab
