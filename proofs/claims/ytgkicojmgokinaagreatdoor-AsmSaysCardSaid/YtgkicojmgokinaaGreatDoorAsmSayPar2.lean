/- Trimmed: AsmSayPar2 -/
import Derived.Test.YtgkicojmgokinaaGreatDoorAsmSayPar
namespace Go.Proofs.YtgkicojmgokinaaGreatDoor.Ab
open Go Go.RowKit
set_option linter.unusedVariables false
set_option linter.unusedSimpArgs false
set_option maxRecDepth 100000
def spC (c : UInt8) : Bool := (c.toNat : Int) != 32
def cutF (sf l : List UInt8) : List UInt8 × Bool := bif decide (3 < l.length) && (l.drop (l.length - 3) == sf) then (l.take (l.length - 3), true) else (l, false)
noncomputable def hitI (L : List UInt8) (A : Nat) (b1 b2 : Bool) (k : Nat) : Inst := aqrl (readF (Int.ofNat (k + 1)) (numsA (bs L) (Int.ofNat A))) b2 b1
noncomputable def hitF (L : List UInt8) (A : Nat) (b1 b2 : Bool) (k : Nat) : Inst × Bool := bif badN (encE (hitI L A b1 b2 k)) == 0 && (textS (hitI L A b1 b2 k)).toList == (bs L).toList then (hitI L A b1 b2 k, true) else (noInst, false)
noncomputable def rowsF (L : List UInt8) (A : Nat) (nm : ByteArray) (b1 b2 : Bool) : Nat → Nat → Inst × Bool
  | 0, k => (noInst, false)
  | f + 1, k => bif (rrowAt k).nm.toList == nm.toList then hitF L A b1 b2 k else rowsF L A nm b1 b2 f (k + 1)
def spN (L : List UInt8) : List UInt8 := L.takeWhile spC
def nm1 (L : List UInt8) : List UInt8 × Bool := cutF [46, 114, 108] (spN L)
def nm2 (L : List UInt8) : List UInt8 × Bool := cutF [46, 97, 113] (nm1 L).1
noncomputable def rparF (L : List UInt8) : Inst × Bool := rowsF L (spN L).length (bs (nm2 L).1) (nm1 L).2 (nm2 L).2 69 0
theorem badN_0 {e : Nat} (h : badN e = 0) : e = 0 := by
  unfold badN at h
  split at h
  · rfl
  · exact absurd h (by decide)
  · exact absurd h (by decide)
  · exact absurd h (by decide)
  · exact absurd h (by decide)
theorem w32_wrap (x : Int) : W32 (IntKind.u32.wrap x) := by rw [IntKind.wrap_u32]; exact ⟨by omega, by omega⟩
theorem rdS_wf (n : Nat) (op a b c : Int) : W32 (rdS n op a b c).imm := by
  have z : W32 0 := ⟨by decide, by decide⟩
  unfold rdS
  split <;> first | exact z | exact w32_wrap _
theorem readF_wf (op : Int) (xs : List Int) : W32 (readF op xs).imm := rdS_wf _ _ _ _ _
theorem cutT_eq {l sf : List UInt8} (hl : l.length ≤ 100000) (y : ByteArray → Res) (n : Res) : cutT (bs l) sf y n = bif (cutF sf l).2 then y (bs (cutF sf l).1) else n := by
  unfold cutT cutF
  have es : (bs l).size = l.length := rfl
  rw [es]
  cases h3 : decide (3 < l.length) with
  | false =>
    have h3 := of_decide_eq_false h3
    rw [show decide (Int.ofNat l.length > 3) = false from decide_eq_false (by simp only [Int.ofNat_eq_natCast]; omega)]
    rfl
  | true =>
    have h3 := of_decide_eq_true h3
    have w : w64 (Int.ofNat l.length - 3) = Int.ofNat (l.length - 3) := by
      rw [w64_of (by simp only [Int.ofNat_eq_natCast]; omega) (by simp only [Int.ofNat_eq_natCast]; omega)]
      simp only [Int.ofNat_eq_natCast]; omega
    rw [w, show decide (Int.ofNat l.length > 3) = true from decide_eq_true (by simp only [Int.ofNat_eq_natCast]; omega), cond_true, show (Int.ofNat (l.length - 3)).toNat = l.length - 3 from rfl,
      show decide (0 ≤ Int.ofNat (l.length - 3)) = true from decide_eq_true (Int.natCast_nonneg _), Nat.ble_eq_true_of_le (show l.length - 3 ≤ l.length by omega), Nat.ble_eq_true_of_le (Nat.le_refl l.length)]
    simp only [Bool.and_self, cond_true, Bool.true_and]
    rw [ext_bs (by omega) (Nat.le_refl _), List.take_of_length_le (by simp), ext_bs (Nat.zero_le _) (by omega), List.drop_zero, Nat.sub_zero]
    have e : ((bs (l.drop (l.length - 3))).toList == (ByteArray.mk ⟨sf⟩).toList) = (l.drop (l.length - 3) == sf) := by
      rw [Lib.toList_data, Lib.toList_data]
    rw [e]
    cases (l.drop (l.length - 3) == sf) <;> rfl
theorem cutF_len (sf l : List UInt8) : (cutF sf l).1.length ≤ l.length := by
  unfold cutF
  cases (decide (3 < l.length) && (l.drop (l.length - 3) == sf))
  · exact Nat.le_refl _
  · simp only [cond_true, List.length_take]; omega
abbrev paOK := rpaΦ_ok
theorem pa_m (Ng : ByteArray → Int → Bool) (Nu : ByteArray → Int → List Int) (Rg : Int → Value → Bool) (Ri : Int → Value → Inst) (Eg : Inst → Bool) (Ew Eb : Inst → Int) (Pg : Inst → Bool) (Pt : Inst → ByteArray) (s : ByteArray) (A : Nat) (nm : ByteArray) (b1 b2 : Bool) (k : Int) :
    paRun Ng Nu Rg Ri Eg Ew Eb Pg Pt [.cond (.tmp 75) paY .skip] (paT s A nm b1 b2 k false) NH (seeA [0, 2, 3, 4, 5, 6, 7, 8, 9, 75]) = oF .normal (paT s A nm b1 b2 k false) NH := by kernel_rfl
theorem pa_d12 : [Code.cond (.tmp 75) paY .skip].all (drawsOK ((ctx noΦ).dr 13)) = true := by kernel_rfl
section
variable {L : List UInt8} (hL : L.length ≤ 100000)
include hL
theorem s_loop : ∀ (t : List UInt8) (A : Nat), L.drop A = t → A ≤ L.length → Lp Tryz.prog 105 paB (paF (bs L) A) NH (.exit 0) (paF (bs L) (A + (t.takeWhile spC).length)) NH
  | [], A, ht, hA => by
    have h1 : L.length ≤ A := by
      rcases Nat.lt_or_ge A L.length with h | h
      · rw [List.drop_eq_getElem_cons h] at ht; cases ht
      · exact h
    have h := pa_b numsG numsA rdG rdIn wfB enW enB prG textS (bs L) A
    rw [show decide (Int.ofNat A < Int.ofNat (bs L).size) = false from decide_eq_false (by show ¬ (Int.ofNat A < Int.ofNat L.length); simp; omega), cond_false] at h
    exact Lp.last (GoOK.code (RowOK.go (RowOK.of_seeA (F2 := paF (bs L) A) paOK (m := 20) (j := 20) (f := 13) (p := keeps 13) (ts := [0, 2, 3, 4]) rfl pa_d2 h)))
  | c :: r, A, ht, hA => by
    obtain ⟨h1, h2, h3⟩ := getD_drop ht
    have h := pa_b numsG numsA rdG rdIn wfB enW enB prG textS (bs L) A
    rw [show decide (Int.ofNat A < Int.ofNat (bs L).size) = true from decide_eq_true (by show Int.ofNat A < Int.ofNat L.length; simp; omega), cond_true, blt_of h1, cond_true, byteAt_bs h1, h2] at h
    cases hc : spC c with
    | true =>
      rw [show ((c.toNat : Int) != 32) = true from hc, cond_true, show w64 (Int.ofNat A + 1) = Int.ofNat (A + 1) from w64_of (by simp; omega) (by simp; omega)] at h
      have ih := s_loop r (A + 1) h3 (by omega)
      rw [List.takeWhile_cons, hc]
      simp only [if_true, List.length_cons]
      rw [show A + ((r.takeWhile spC).length + 1) = A + 1 + (r.takeWhile spC).length by omega]
      exact Lp.step (GoOK.code (RowOK.go (RowOK.of_seeA (F2 := paF (bs L) (A + 1)) paOK (m := 20) (j := 20) (f := 13) (p := keeps 13) (ts := [0, 2, 3, 4]) rfl pa_d2 h))) ih
    | false =>
      rw [show ((c.toNat : Int) != 32) = false from hc, cond_false] at h
      rw [List.takeWhile_cons, hc]
      simp only [Bool.false_eq_true, if_false, List.length_nil, Nat.add_zero]
      exact Lp.last (GoOK.code (RowOK.go (RowOK.of_seeA (F2 := paF (bs L) A) paOK (m := 20) (j := 20) (f := 13) (p := keeps 13) (ts := [0, 2, 3, 4]) rfl pa_d2 h)))
omit hL in
theorem p_miss {A : Nat} {nm : ByteArray} {b1 b2 : Bool} {k : Nat} (hk : k < 69) (hn : ((rrowAt k).nm.toList == nm.toList) = false) :
    GcOK Tryz.prog 0 0 105 paR (paK (bs L) A nm b1 b2 (Int.ofNat k)) NH .normal (paK (bs L) A nm b1 b2 (Int.ofNat (k + 1))) NH := by
  have a := pa_r numsG numsA rdG rdIn wfB enW enB prG textS (bs L) A nm b1 b2 (Int.ofNat k)
  rw [show decide (Int.ofNat k < 69) = true from decide_eq_true (by simp only [Int.ofNat_eq_natCast]; omega), cond_true] at a
  have b := (ppAll k hk numsG numsA rdG rdIn wfB enW enB prG textS (bs L) A nm b1 b2).1
  rw [hn, cond_false] at b
  have c := pa_m numsG numsA rdG rdIn wfB enW enB prG textS (bs L) A nm b1 b2 (Int.ofNat k)
  have d := pa_n numsG numsA rdG rdIn wfB enW enB prG textS (bs L) A nm b1 b2 (Int.ofNat k) false
  rw [show w64 (Int.ofNat k + 1) = Int.ofNat (k + 1) from w64_of (by simp; omega) (by simp; omega)] at d
  refine GoOK.code ?_
  rw [paR_flat]
  refine (RowOK.go (RowOK.of_seeA (F2 := paK (bs L) A nm b1 b2 (Int.ofNat k)) paOK (m := 20) (j := 20) (f := 13) (p := keeps 13) (ts := [0, 2, 3, 4, 5, 6, 7, 8, 9]) rfl pa_d7 a)).app ((GcOK.row (e := outOf 3 .normal) (GcOK.block (id := 3) (GoOK.code ?_))).app
    (RowOK.go (RowOK.of_seeA (F2 := paK (bs L) A nm b1 b2 (Int.ofNat (k + 1))) paOK (m := 20) (j := 20) (f := 13) (p := keeps 13) (ts := [0, 2, 3, 4, 5, 6, 7, 8, 9]) rfl pa_d8 d)))
  rw [paX_flat]
  exact (RowOK.go (RowOK.of_seeA (F2 := paT (bs L) A nm b1 b2 (Int.ofNat k) false) paOK (m := 20) (j := 20) (f := 13) (p := keeps 13) (ts := [0, 2, 3, 4, 5, 6, 7, 8, 9, 75]) rfl pa_d11 b)).app
    (RowOK.go (RowOK.of_seeA (F2 := paT (bs L) A nm b1 b2 (Int.ofNat k) false) paOK (m := 20) (j := 20) (f := 13) (p := keeps 13) (ts := [0, 2, 3, 4, 5, 6, 7, 8, 9, 75]) rfl pa_d12 c))
omit hL in
theorem hit_wf (A : Nat) (b1 b2 : Bool) (k : Nat) : wfB (hitI L A b1 b2 k) = true := wfB_of (readF_wf _ _)
theorem p_hit {A : Nat} (hA : A ≤ L.length) {nm : ByteArray} {b1 b2 : Bool} {k : Nat} (hk : k < 69) (hn : ((rrowAt k).nm.toList == nm.toList) = true) :
    ∃ j, GcOK Tryz.prog 0 0 105 paR (paK (bs L) A nm b1 b2 (Int.ofNat k)) NH .ret (paE (hitF L A b1 b2 k).2) [some ⟨instC (hitF L A b1 b2 k).1, 24, none⟩, some ⟨instC j, 24, none⟩] := by
  have a := pa_r numsG numsA rdG rdIn wfB enW enB prG textS (bs L) A nm b1 b2 (Int.ofNat k)
  rw [show decide (Int.ofNat k < 69) = true from decide_eq_true (by simp only [Int.ofNat_eq_natCast]; omega), cond_true] at a
  obtain ⟨b, o⟩ := ppAll k hk numsG numsA rdG rdIn wfB enW enB prG textS (bs L) A nm b1 b2
  rw [hn, cond_true] at b
  have g1 : numsG (bs L) (Int.ofNat A) = true := by
    simp only [numsG, Bool.and_eq_true, decide_eq_true_eq]
    exact ⟨hL, Int.natCast_nonneg _, hA⟩
  have hop : isOp (Int.ofNat (k + 1)) = true := by
    simp only [isOp, Bool.and_eq_true, decide_eq_true_eq, Int.ofNat_eq_natCast]
    omega
  have g2 : rdG (Int.ofNat (k + 1)) (L1 (numsA (bs L) (Int.ofNat A))) = true := by
    simp only [rdG, Bool.and_eq_true, decide_eq_true_eq]
    exact ⟨hop, by rw [unL1_L1]⟩
  have eI : rdIn (Int.ofNat (k + 1)) (L1 (numsA (bs L) (Int.ofNat A))) = readF (Int.ofNat (k + 1)) (numsA (bs L) (Int.ofNat A)) := by unfold rdIn; rw [unL1_L1]
  rw [g1, g2, eI] at o
  simp only [cond_true, both] at o
  have e3 : GoOK Tryz.prog 0 0 105 [.region 16 ops16 true] (paT (bs L) A nm b1 b2 (Int.ofNat k) true) NH .normal (paH (bs L) b1 b2) [some ⟨instC noInst, 24, none⟩, some ⟨instC (readF (Int.ofNat (k + 1)) (numsA (bs L) (Int.ofNat A))), 24, none⟩] := by
    refine GoOK.ordH paOK (m := 20) (ts := [0, 2, 3, 6, 7, 10]) ord16 o fun y hy M0 w0 M' a' w' F' h0 hts hA => ?_
    have hy : y = ((paH (bs L) b1 b2).map (fun e => some e.2), [some ⟨instC noInst, 24, none⟩, some ⟨instC (readF (Int.ofNat (k + 1)) (numsA (bs L) (Int.ofNat A))), 24, none⟩]) := by
      simpa [paQ] using hy
    subst hy
    simp only [paH, List.map_cons, List.map_nil, List.cons.injEq, and_true] at hts
    obtain ⟨h1, h2, h3, h4, h5, h6⟩ := hts
    exact ⟨M', hA.rel, fun t v ht => hA.fr t v (by
      have := Fr.get_mem ht
      simp only [paH, List.mem_cons, List.not_mem_nil, or_false, Prod.mk.injEq] at this
      rcases this with ⟨rfl, rfl⟩ | ⟨rfl, rfl⟩ | ⟨rfl, rfl⟩ | ⟨rfl, rfl⟩ | ⟨rfl, rfl⟩ | ⟨rfl, rfl⟩ <;> assumption), hA.size, hA.defers, hA.ext, hA.keep⟩
  have y := pa_y numsG numsA rdG rdIn wfB enW enB prG textS (bs L) b1 b2 (readF (Int.ofNat (k + 1)) (numsA (bs L) (Int.ofNat A)))
  have e4 : ∃ j, paRun numsG numsA rdG rdIn wfB enW enB prG textS ((flat paY).drop 1) (paH (bs L) b1 b2) [some ⟨instC noInst, 24, none⟩, some ⟨instC (readF (Int.ofNat (k + 1)) (numsA (bs L) (Int.ofNat A))), 24, none⟩] (seeA [2, 3]) = paO (hitF L A b1 b2 k).1 j (hitF L A b1 b2 k).2 := by
    refine ⟨hitI L A b1 b2 k, ?_⟩
    rw [y]
    unfold hitF
    have hw := hit_wf (L := L) A b1 b2 k
    unfold hitI at hw ⊢
    generalize aqrl (readF (Int.ofNat (k + 1)) (numsA (bs L) (Int.ofNat A))) b2 b1 = i at *
    rw [hw, cond_true]
    cases hb : (enB i == 0) with
    | false =>
      rw [show (badN (encE i) == 0) = false from hb]
      rfl
    | true =>
      rw [show (badN (encE i) == 0) = true from hb]
      have hz : encE i = 0 := badN_0 (beq_iff_eq.1 hb)
      rw [show prG i = true by unfold prG; rw [hw, hz]; rfl]
      cases ((textS i).toList == (bs L).toList) <;> rfl
  obtain ⟨j, e4⟩ := e4
  refine ⟨j, GoOK.code ?_⟩
  have e5 := RowOK.go (base := 0) (RowOK.of_seeA (F2 := paE (hitF L A b1 b2 k).2) paOK (m := 20) (j := 20) (f := 13) (p := keeps 13) (ts := [2, 3]) rfl pa_d10 e4)
  have eY : GcOK Tryz.prog 0 0 105 paY (paT (bs L) A nm b1 b2 (Int.ofNat k) true) NH .ret (paE (hitF L A b1 b2 k).2) [some ⟨instC (hitF L A b1 b2 k).1, 24, none⟩, some ⟨instC j, 24, none⟩] := by
    refine GoOK.code ?_
    rw [paY_flat]
    exact e3.app e5
  rw [paR_flat]
  refine (RowOK.go (RowOK.of_seeA (F2 := paK (bs L) A nm b1 b2 (Int.ofNat k)) paOK (m := 20) (j := 20) (f := 13) (p := keeps 13) (ts := [0, 2, 3, 4, 5, 6, 7, 8, 9]) rfl pa_d7 a)).app (GoOK.left (GcOK.row (e := outOf 3 .ret) (GcOK.block (id := 3) (GoOK.code ?_))) (by intro h; cases h) _)
  rw [paX_flat]
  exact (RowOK.go (RowOK.of_seeA (F2 := paT (bs L) A nm b1 b2 (Int.ofNat k) true) paOK (m := 20) (j := 20) (f := 13) (p := keeps 13) (ts := [0, 2, 3, 4, 5, 6, 7, 8, 9, 75]) rfl pa_d11 b)).app
    (GcOK.row (GcOK.cond (t := 75) (b := true) rfl eY))
theorem k_loop {A : Nat} (hA : A ≤ L.length) {nm : ByteArray} {b1 b2 : Bool} : ∀ (f k : Nat), k + f = 69 →
    (∃ j, Lp Tryz.prog 105 paR (paK (bs L) A nm b1 b2 (Int.ofNat k)) NH .ret (paE (rowsF L A nm b1 b2 f k).2) [some ⟨instC (rowsF L A nm b1 b2 f k).1, 24, none⟩, some ⟨instC j, 24, none⟩]) ∨
      (rowsF L A nm b1 b2 f k = (noInst, false) ∧ Lp Tryz.prog 105 paR (paK (bs L) A nm b1 b2 (Int.ofNat k)) NH (.exit 2) (paK (bs L) A nm b1 b2 (Int.ofNat 69)) NH)
  | 0, k, h => by
    obtain rfl : k = 69 := by omega
    refine .inr ⟨rfl, Lp.last ?_⟩
    have a := pa_r numsG numsA rdG rdIn wfB enW enB prG textS (bs L) A nm b1 b2 (Int.ofNat 69)
    rw [show decide (Int.ofNat 69 < 69) = false from rfl, cond_false] at a
    refine GoOK.code ?_
    rw [paR_flat]
    exact GoOK.left (RowOK.go (RowOK.of_seeA (F2 := paK (bs L) A nm b1 b2 (Int.ofNat 69)) paOK (m := 20) (j := 20) (f := 13) (p := keeps 13) (ts := [0, 2, 3, 4, 5, 6, 7, 8, 9]) rfl pa_d7 a)) (by intro h; cases h) _
  | f + 1, k, h => by
    have hk : k < 69 := by omega
    cases hn : ((rrowAt k).nm.toList == nm.toList) with
    | true =>
      obtain ⟨j, hj⟩ := p_hit hL hA (b1 := b1) (b2 := b2) hk hn
      refine .inl ⟨j, ?_⟩
      have e : rowsF L A nm b1 b2 (f + 1) k = hitF L A b1 b2 k := by simp only [rowsF, hn, cond_true]
      rw [e]
      exact Lp.last hj
    | false =>
      have e : rowsF L A nm b1 b2 (f + 1) k = rowsF L A nm b1 b2 f (k + 1) := by simp only [rowsF, hn, cond_false]
      rw [e]
      have st := p_miss (L := L) (A := A) (b1 := b1) (b2 := b2) hk hn
      rcases k_loop hA f (k + 1) (by omega) with ⟨j, hj⟩ | ⟨h1, h2⟩
      · exact .inl ⟨j, Lp.step st hj⟩
      · exact .inr ⟨h1, Lp.step st h2⟩
theorem rparOK : PureOK Tryz.prog 13 [.string (bs L)] (.tuple ⟨[instV (rparF L).1, .bool (rparF L).2]⟩) := by
  have fin : ∀ (r : Inst × Bool) (H : Heap), H[0]? = some (some ⟨instC r.1, 24, none⟩) → GoOK Tryz.prog 0 0 105 (flat (bodyOf 13)) (enterF 0 [.string (bs L)]) [] .ret (paE r.2) H → PureOK Tryz.prog 13 [.string (bs L)] (.tuple ⟨[instV r.1, .bool r.2]⟩) := fun r H hH h => by
    obtain ⟨fn, f1, f2, f3, f4⟩ := fnOf fn13
    exact PureOK.of_call (CallOK.of_go noOK (f := 13) (fn := fn) (c := bodyOf 13) (args := [.string (bs L)]) (l := [instV r.1, .bool r.2]) (H := []) f1 f2 (by rw [f3]; simp) (by rw [f3]; exact GoOK.code h) (.inr rfl) (by
      rw [f4]
      obtain ⟨x, H, rfl⟩ : ∃ x H', H = x :: H' := by cases H with | nil => cases hH | cons x H' => exact ⟨x, H', rfl⟩
      simp only [List.getElem?_cons_zero, Option.some.injEq] at hH
      subst hH
      rfl)) (Gh.plain rfl)
  have hA : (spN L).length ≤ L.length := tw_len spC L
  have g0 := RowOK.go (base := 0) (RowOK.of_seeA (F2 := paF (bs L) 0) paOK (m := 20) (j := 20) (f := 13) (p := keeps 13) (ts := [0, 2, 3, 4]) rfl pa_d1 (pa_0 numsG numsA rdG rdIn wfB enW enB prG textS (bs L)))
  have g1 := (GcOK.block (id := 0) ((s_loop hL L 0 rfl (Nat.zero_le _)).loop (by intro h; cases h))).row
  rw [Nat.zero_add] at g1
  have x3 := pa_3 numsG numsA rdG rdIn wfB enW enB prG textS (bs L) (L.takeWhile spC).length
  rw [show Nat.ble (L.takeWhile spC).length (bs L).size = true from Nat.ble_eq_true_of_le hA, cond_true, ext_bs (A := 0) (E := (L.takeWhile spC).length) (Nat.zero_le _) hA, List.drop_zero, Nat.sub_zero, take_tw] at x3
  have g2 := RowOK.go (base := 0) (RowOK.of_seeA (F2 := paN (bs L) (L.takeWhile spC).length (bs (L.takeWhile spC))) paOK (m := 20) (j := 20) (f := 13) (p := keeps 13) (ts := [0, 2, 3, 4, 5]) rfl pa_d3 x3)
  have x4 := pa_4 numsG numsA rdG rdIn wfB enW enB prG textS (bs L) (spN L).length (bs (spN L))
  rw [cutT_eq (by omega)] at x4
  have x4' : paRun numsG numsA rdG rdIn wfB enW enB prG textS (P13 4 3) (paN (bs L) (spN L).length (bs (spN L))) NH (seeA [0, 2, 3, 4, 5, 6]) = oF .normal (paL (bs L) (spN L).length (bs (nm1 L).1) (nm1 L).2) NH := by
    rw [x4]
    unfold nm1 cutF
    cases (decide (3 < (spN L).length) && ((spN L).drop ((spN L).length - 3) == [46, 114, 108])) <;> rfl
  have g3 := RowOK.go (base := 0) (RowOK.of_seeA (F2 := paL (bs L) (spN L).length (bs (nm1 L).1) (nm1 L).2) paOK (m := 20) (j := 20) (f := 13) (p := keeps 13) (ts := [0, 2, 3, 4, 5, 6]) rfl pa_d4 x4')
  have l1 : (nm1 L).1.length ≤ 100000 := by have := cutF_len [46, 114, 108] (spN L); unfold nm1; omega
  have x5 := pa_7 numsG numsA rdG rdIn wfB enW enB prG textS (bs L) (spN L).length (bs (nm1 L).1) (nm1 L).2
  rw [cutT_eq l1] at x5
  have x5' : paRun numsG numsA rdG rdIn wfB enW enB prG textS (P13 7 3) (paL (bs L) (spN L).length (bs (nm1 L).1) (nm1 L).2) NH (seeA [0, 2, 3, 4, 5, 6, 7]) = oF .normal (paM (bs L) (spN L).length (bs (nm2 L).1) (nm1 L).2 (nm2 L).2) NH := by
    rw [x5]
    have : ∀ (p : List UInt8 × Bool) (m : List UInt8), (p.2 = false → p.1 = m) → (bif p.2 then oF .normal (paM (bs L) (spN L).length (bs p.1) (nm1 L).2 true) NH else oF .normal (paM (bs L) (spN L).length (bs m) (nm1 L).2 false) NH) = oF .normal (paM (bs L) (spN L).length (bs p.1) (nm1 L).2 p.2) NH := by
      rintro ⟨p, b⟩ m h
      cases b
      · rw [← h rfl]; rfl
      · rfl
    exact this (nm2 L) (nm1 L).1 (fun h => by
      unfold nm2 at h ⊢
      unfold cutF at h ⊢
      cases hc : (decide (3 < (nm1 L).1.length) && ((nm1 L).1.drop ((nm1 L).1.length - 3) == [46, 97, 113])) with
      | true => rw [hc] at h; cases h
      | false => rfl)
  have g4 := RowOK.go (base := 0) (RowOK.of_seeA (F2 := paM (bs L) (spN L).length (bs (nm2 L).1) (nm1 L).2 (nm2 L).2) paOK (m := 20) (j := 20) (f := 13) (p := keeps 13) (ts := [0, 2, 3, 4, 5, 6, 7]) rfl pa_d5 x5')
  have g5 := RowOK.go (base := 0) (RowOK.of_seeA (F2 := paK (bs L) (spN L).length (bs (nm2 L).1) (nm1 L).2 (nm2 L).2 0) paOK (m := 20) (j := 20) (f := 13) (p := keeps 13) (ts := [0, 2, 3, 4, 5, 6, 7, 8, 9]) rfl pa_d6 (pa_10 numsG numsA rdG rdIn wfB enW enB prG textS (bs L) (spN L).length (bs (nm2 L).1) (nm1 L).2 (nm2 L).2))
  rcases k_loop hL hA (nm := bs (nm2 L).1) (b1 := (nm1 L).2) (b2 := (nm2 L).2) 69 0 rfl with ⟨j, hj⟩ | ⟨h1, h2⟩
  · refine fin (rparF L) [some ⟨instC (rparF L).1, 24, none⟩, some ⟨instC j, 24, none⟩] rfl ?_
    rw [pa_flat]
    exact g0.app (g1.app (g2.app (g3.app (g4.app (g5.app (GoOK.left ((GcOK.block (id := 2) (hj.loop (by intro h; cases h))).row) (by intro h; cases h) _))))))
  · have e : rparF L = (noInst, false) := h1
    rw [e]
    refine fin (noInst, false) NH rfl ?_
    rw [pa_flat]
    have g7 := RowOK.go (base := 0) (RowOK.of_seeA (F2 := paE false) paOK (m := 20) (j := 20) (f := 13) (p := keeps 13) (ts := [2, 3]) rfl pa_d9 (pa_13 numsG numsA rdG rdIn wfB enW enB prG textS (bs L) (spN L).length (bs (nm2 L).1) (nm1 L).2 (nm2 L).2 (Int.ofNat 69)))
    exact g0.app (g1.app (g2.app (g3.app (g4.app (g5.app ((GcOK.block (id := 2) (h2.loop (by intro h; cases h))).row.app g7))))))
end
end Go.Proofs.YtgkicojmgokinaaGreatDoor.Ab
