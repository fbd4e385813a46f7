/- Trimmed: AsmSayNum2 -/
import Derived.Test.YtgkicojmgokinaaGreatDoorAsmBad
namespace Go.Proofs.YtgkicojmgokinaaGreatDoor.Ab
open Go Go.RowKit
set_option linter.unusedVariables false
set_option linter.unusedSimpArgs false
set_option maxRecDepth 100000
def nuV (acc : List Int) : Value := sliV 0 acc.length 1
def nuHp (acc : List Int) : Heap := match acc with
  | [] => []
  | a :: r => [some ⟨(a :: r).map (Value.int .i64), 3, none⟩]
theorem skip_eq {α : Type} (c : Int) (x y : α) : (bif decide (c < 48) then (bif c != 45 then x else y) else bif decide (c > 57) then (bif c != 45 then x else y) else y) = bif skipB c then x else y := by
  unfold skipB
  cases decide (c < 48) <;> cases decide (c > 57) <;> cases (c != 45) <;> rfl
theorem cont_eq {α : Type} (base c : Int) (x y : α) : (bif decide (c ≥ 48) then (bif decide (c ≤ 57) then x else (bif base == 16 then (bif decide (c ≥ 97) then (bif decide (c ≤ 102) then x else y) else y) else y)) else (bif base == 16 then (bif decide (c ≥ 97) then (bif decide (c ≤ 102) then x else y) else y) else y)) = bif contB base c then x else y := by
  unfold contB hxB
  cases decide (c ≥ 48) <;> cases decide (c ≤ 57) <;> cases (base == 16) <;> cases decide (c ≥ 97) <;> cases decide (c ≤ 102) <;> rfl
theorem take_tw (p : UInt8 → Bool) (l : List UInt8) : l.take (l.takeWhile p).length = l.takeWhile p := by
  have h := List.takeWhile_append_dropWhile (p := p) (l := l)
  conv => lhs; rw [← h]
  rw [List.take_left' (by rw [h])]
theorem drop_tw (p : UInt8 → Bool) (l : List UInt8) : l.drop (l.takeWhile p).length = l.dropWhile p := by
  have h := List.takeWhile_append_dropWhile (p := p) (l := l)
  conv => lhs; rw [← h]
  rw [List.drop_left' (by rw [h])]
theorem tw_len (p : UInt8 → Bool) (l : List UInt8) : (l.takeWhile p).length ≤ l.length := by
  have h := congrArg List.length (List.takeWhile_append_dropWhile (p := p) (l := l))
  rw [List.length_append] at h
  omega
theorem getD_drop {L : List UInt8} {A : Nat} {c : UInt8} {r : List UInt8} (h : L.drop A = c :: r) : A < L.length ∧ L.getD A 0 = c ∧ L.drop (A + 1) = r := by
  have h1 : A < L.length := by
    rcases Nat.lt_or_ge A L.length with h1 | h1
    · exact h1
    · rw [List.drop_eq_nil_of_le h1] at h; cases h
  rw [List.drop_eq_getElem_cons h1] at h
  injection h with h2 h3
  exact ⟨h1, by rw [List.getD_eq_getElem?_getD, List.getElem?_eq_getElem h1]; exact h2, h3⟩
section
variable {L : List UInt8}
theorem ext_bs {A E : Nat} (h : A ≤ E) (hE : E ≤ L.length) : (bs L).extract A E = bs ((L.drop A).take (E - A)) := ByteArray.ext (by
  simp only [ByteArray.data_extract, bs]
  apply Array.ext'
  simp)
theorem blt_of {A : Nat} (h : A < L.length) : Nat.blt A (bs L).size = true := by rw [Nat.blt_eq]; exact h
theorem r_a {A : Nat} (h1 : A < L.length) (v : Value) (H : Heap) : GoOK Tryz.prog 0 0 105 ((flat nuB).take 2) (nuF (bs L) (Int.ofNat A) v) H .normal (nuF (bs L) (Int.ofNat A) v) H := by
  have h := nu_a nG nD nK (bs L) A v H
  rw [show decide (Int.ofNat A < Int.ofNat (bs L).size) = true from decide_eq_true (by show Int.ofNat A < Int.ofNat L.length; simp; omega), cond_true] at h
  exact RowOK.go (RowOK.of_seeA nuΦ_ok (m := 20) (j := 20) (f := 44) (p := keeps 44) (ts := [0, 1, 5]) rfl nu_d2 h)
theorem r_out {A : Nat} (h1 : ¬ A < L.length) (v : Value) (H : Heap) : GcOK Tryz.prog 0 0 105 nuB (nuF (bs L) (Int.ofNat A) v) H (.exit 0) (nuF (bs L) (Int.ofNat A) v) H := by
  have h := nu_a nG nD nK (bs L) A v H
  rw [show decide (Int.ofNat A < Int.ofNat (bs L).size) = false from decide_eq_false (by show ¬ (Int.ofNat A < Int.ofNat L.length); simp; omega), cond_false] at h
  refine GoOK.code ?_
  rw [nuB_flat]
  exact GoOK.left (RowOK.go (RowOK.of_seeA nuΦ_ok (m := 20) (j := 20) (f := 44) (p := keeps 44) (ts := [0, 1, 5]) rfl nu_d2 h)) (by intro h; cases h) _
theorem nuHp_gh (acc : List Int) : ∀ x ∈ acc.map (Value.int .i64), Gh x := fun x hx => by
  obtain ⟨n, _, rfl⟩ := List.mem_map.1 hx; exact gh_int _ _
end
section
variable {L : List UInt8} (hL : L.length ≤ 100000)
include hL
theorem i_loop (A : Int) (v : Value) (base : Int) (H : Heap) : ∀ (t : List UInt8) (E : Nat), L.drop E = t → E ≤ L.length → Lp Tryz.prog 105 nuI (nuJ (bs L) A v base (Int.ofNat E)) H (.exit 2) (nuJ (bs L) A v base (Int.ofNat (E + (t.takeWhile (contU base)).length))) H
  | [], E, ht, hE => by
    have h1 : L.length ≤ E := by
      rcases Nat.lt_or_ge E L.length with h | h
      · rw [List.drop_eq_getElem_cons h] at ht; cases ht
      · exact h
    have h := nu_i nG nD nK (bs L) A E v base H
    rw [show decide (Int.ofNat E < Int.ofNat (bs L).size) = false from decide_eq_false (by show ¬ (Int.ofNat E < Int.ofNat L.length); simp; omega), cond_false] at h
    exact Lp.last (GoOK.code (RowOK.go (RowOK.of_seeA (F2 := nuJ (bs L) A v base (Int.ofNat E)) nuΦ_ok (m := 20) (j := 20) (f := 44) (p := keeps 44) (ts := [0, 1, 5, 7, 8]) rfl nu_d4 h)))
  | c :: r, E, ht, hE => by
    obtain ⟨h1, h2, h3⟩ := getD_drop ht
    have h := nu_i nG nD nK (bs L) A E v base H
    unfold nuH at h
    rw [show decide (Int.ofNat E < Int.ofNat (bs L).size) = true from decide_eq_true (by show Int.ofNat E < Int.ofNat L.length; simp; omega), cond_true, blt_of h1] at h
    simp only [cond_true] at h
    rw [cont_eq, byteAt_bs h1, h2] at h
    cases hc : contU base c with
    | true =>
      rw [show contB base (c.toNat : Int) = true from hc, cond_true, show w64 (Int.ofNat E + 1) = Int.ofNat (E + 1) from w64_of (by simp; omega) (by simp; omega)] at h
      have ih := i_loop A v base H r (E + 1) h3 (by omega)
      rw [List.takeWhile_cons, hc]
      simp only [if_true, List.length_cons]
      rw [show E + ((r.takeWhile (contU base)).length + 1) = E + 1 + (r.takeWhile (contU base)).length by omega]
      exact Lp.step (GoOK.code (RowOK.go (RowOK.of_seeA (F2 := nuJ (bs L) A v base (Int.ofNat (E + 1))) nuΦ_ok (m := 20) (j := 20) (f := 44) (p := keeps 44) (ts := [0, 1, 5, 7, 8]) rfl nu_d4 h))) ih
    | false =>
      rw [show contB base (c.toNat : Int) = false from hc, cond_false] at h
      rw [List.takeWhile_cons, hc]
      simp only [Bool.false_eq_true, if_false, List.length_nil, Nat.add_zero]
      exact Lp.last (GoOK.code (RowOK.go (RowOK.of_seeA (F2 := nuJ (bs L) A v base (Int.ofNat E)) nuΦ_ok (m := 20) (j := 20) (f := 44) (p := keeps 44) (ts := [0, 1, 5, 7, 8]) rfl nu_d4 h)))
theorem r_skip {A : Nat} {c : UInt8} {r : List UInt8} (hd : L.drop A = c :: r) (hs : skipB (c.toNat : Int) = true) (v : Value) (H : Heap) : GcOK Tryz.prog 0 0 105 nuB (nuF (bs L) (Int.ofNat A) v) H .normal (nuF (bs L) (Int.ofNat (A + 1)) v) H := by
  obtain ⟨h1, h2, h3⟩ := getD_drop hd
  have h := nu_skip nG nD nK (bs L) A v H
  rw [blt_of h1, cond_true, skip_eq, byteAt_bs h1, h2, hs, cond_true, show w64 (Int.ofNat A + 1) = Int.ofNat (A + 1) from w64_of (by simp; omega) (by simp; omega)] at h
  refine GoOK.code ?_
  rw [nuB_flat]
  refine (r_a h1 v H).app (GcOK.row (e := outOf 1 (.exit 1)) (GcOK.block (id := 1) (GoOK.code ?_)))
  rw [nuX_flat]
  exact GoOK.left (RowOK.go (RowOK.of_seeA nuΦ_ok (m := 20) (j := 20) (f := 44) (p := keeps 44) (ts := [0, 1, 5]) rfl nu_d3 h)) (by intro h; cases h) _
theorem r_num {A : Nat} {c : UInt8} {r : List UInt8} (hd : L.drop A = c :: r) (hs : skipB (c.toNat : Int) = false) (v : Value) (H : Heap) : ∃ (B E0 : Nat), GoOK Tryz.prog 0 0 105 ((flat nuX).take 7) (nuF (bs L) (Int.ofNat A) v) H .normal (nuJ (bs L) (Int.ofNat B) v (baseN c r) (Int.ofNat E0)) H ∧ E0 ≤ L.length ∧ B ≤ E0 ∧
    (L.drop B).take (E0 + ((L.drop E0).takeWhile (contU (baseN c r))).length - B) = preN c r ∧ L.drop (E0 + ((L.drop E0).takeWhile (contU (baseN c r))).length) = restN c r ∧ E0 + ((L.drop E0).takeWhile (contU (baseN c r))).length = B + (preN c r).length ∧ A ≤ B := by
  obtain ⟨h1, h2, h3⟩ := getD_drop hd
  have h := nu_num nG nD nK (bs L) A v H
  rw [blt_of h1, cond_true, skip_eq, byteAt_bs h1, h2, hs, cond_false] at h
  unfold nuN at h
  have w1 : w64 (Int.ofNat A + 1) = Int.ofNat (A + 1) := w64_of (by simp; omega) (by simp; omega)
  have w2 : w64 (Int.ofNat A + 2) = Int.ofNat (A + 2) := w64_of (by simp; omega) (by simp; omega)
  rw [w1, w2, byteAt_bs h1, h2] at h
  have e48 : ((c.toNat : Int) == 48) = (c == 48) := by
    rw [Bool.eq_iff_iff, beq_iff_eq, beq_iff_eq]
    exact ⟨fun h => UInt8.toNat_inj.1 (by show c.toNat = 48; omega), fun h => by rw [h]; rfl⟩
  rw [e48] at h
  have key : nuRun nG nD nK ((flat nuX).take 7) (nuF (bs L) (Int.ofNat A) v) H (seeA [0, 1, 5, 7, 8]) = bif isHex c r then oF .normal (nuJ (bs L) (Int.ofNat (A + 2)) v 16 (Int.ofNat (A + 2))) H else oF .normal (nuJ (bs L) (Int.ofNat A) v 10 (Int.ofNat (A + 1))) H := by
    rw [h]
    unfold isHex
    cases hc : (c == 48) with
    | false => rfl
    | true =>
      simp only [Bool.true_and, cond_true]
      cases r with
      | nil =>
        have : L.length ≤ A + 1 := by
          rcases Nat.lt_or_ge (A + 1) L.length with h | h
          · rw [List.drop_eq_getElem_cons h] at h3; cases h3
          · exact h
        rw [show decide (Int.ofNat (A + 1) < Int.ofNat (bs L).size) = false from decide_eq_false (by show ¬ (Int.ofNat (A + 1) < Int.ofNat L.length); simp only [Int.ofNat_eq_natCast]; omega)]
        rfl
      | cons d q =>
        obtain ⟨g1, g2, g3⟩ := getD_drop h3
        rw [show decide (Int.ofNat (A + 1) < Int.ofNat (bs L).size) = true from decide_eq_true (by show (Int.ofNat (A + 1) < Int.ofNat L.length); simp only [Int.ofNat_eq_natCast]; omega), cond_true,
          show (decide (0 ≤ Int.ofNat (A + 1)) && Nat.blt (Int.ofNat (A + 1)).toNat (bs L).size) = true by
            rw [Bool.and_eq_true]; exact ⟨decide_eq_true (Int.natCast_nonneg _), blt_of g1⟩, cond_true]
        show (bif byteAt (bs L) (A + 1) == 120 then _ else _) = _
        rw [byteAt_bs g1, g2]
        have e120 : ((d.toNat : Int) == 120) = (some d == some 120) := by
          rw [Bool.eq_iff_iff, beq_iff_eq, beq_iff_eq]
          exact ⟨fun h => congrArg some (UInt8.toNat_inj.1 (by show d.toNat = 120; omega)), fun h => by injection h with h; rw [h]; rfl⟩
        rw [e120]
        rfl
  cases hx : isHex c r with
  | true =>
    rw [hx, cond_true] at key
    have hr : ∃ q, r = 120 :: q := by
      unfold isHex at hx
      cases r with
      | nil => simp at hx
      | cons d q => simp at hx; exact ⟨q, by rw [hx.2]⟩
    obtain ⟨q, rfl⟩ := hr
    obtain ⟨g1, g2, g3⟩ := getD_drop h3
    have hb : baseN c (120 :: q) = 16 := by unfold baseN; rw [hx]; rfl
    have hp : preN c (120 :: q) = q.takeWhile (contU 16) := by unfold preN; rw [hx]; rfl
    have hrs : restN c (120 :: q) = q.dropWhile (contU 16) := by unfold restN; rw [hx]; rfl
    rw [hb, hp, hrs]
    refine ⟨A + 2, A + 2, RowOK.go (RowOK.of_seeA nuΦ_ok (m := 20) (j := 20) (f := 44) (p := keeps 44) (ts := [0, 1, 5, 7, 8]) rfl nu_d3 key), by omega, by omega, ?_, ?_, ?_⟩
    · rw [g3, show A + 2 + (q.takeWhile (contU 16)).length - (A + 2) = (q.takeWhile (contU 16)).length by omega, take_tw]
    · rw [g3, ← List.drop_drop, g3, drop_tw]
    · rw [g3]; exact ⟨rfl, by omega⟩
  | false =>
    rw [hx, cond_false] at key
    have hb : baseN c r = 10 := by unfold baseN; rw [hx]; rfl
    have hp : preN c r = c :: r.takeWhile (contU 10) := by unfold preN; rw [hx]; rfl
    have hrs : restN c r = r.dropWhile (contU 10) := by unfold restN; rw [hx]; rfl
    rw [hb, hp, hrs]
    refine ⟨A, A + 1, RowOK.go (RowOK.of_seeA nuΦ_ok (m := 20) (j := 20) (f := 44) (p := keeps 44) (ts := [0, 1, 5, 7, 8]) rfl nu_d3 key), by omega, by omega, ?_, ?_, ?_⟩
    · rw [h3, hd, show A + 1 + (r.takeWhile (contU 10)).length - A = (r.takeWhile (contU 10)).length + 1 by omega, List.take_succ_cons, take_tw]
    · rw [h3, ← List.drop_drop, h3, drop_tw]
    · rw [h3, List.length_cons]; exact ⟨by omega, Nat.le_refl _⟩
theorem r_good {A : Nat} {c : UInt8} {r : List UInt8} {acc : List Int} (ha : acc.length ≤ 1000000) (hd : L.drop A = c :: r) (hs : skipB (c.toNat : Int) = false) (hk : (digF (baseN c r) (preN c r)).2 = true) : ∃ A' : Nat,
    GcOK Tryz.prog 0 0 105 nuB (nuF (bs L) (Int.ofNat A) (nuV acc)) (nuHp acc) .normal (nuF (bs L) (Int.ofNat A') (nuV (acc ++ [(digF (baseN c r) (preN c r)).1]))) (nuHp (acc ++ [(digF (baseN c r) (preN c r)).1])) ∧ L.drop A' = restN c r ∧ A < A' ∧ A' ≤ L.length := by
  obtain ⟨h1, h2, h3⟩ := getD_drop hd
  obtain ⟨B, E0, g1, g2, g3, g4, g5, g6, g7⟩ := r_num hL hd hs (nuV acc) (nuHp acc)
  have hne : (preN c r).length ≠ 0 := fun h => by
    rw [List.length_eq_zero_iff.1 h] at hk
    have : (digF (baseN c r) []).2 = false := rfl
    rw [this] at hk; cases hk
  generalize hE : E0 + ((L.drop E0).takeWhile (contU (baseN c r))).length = E at *
  have hEL : E ≤ L.length := by
    have := tw_len (contU (baseN c r)) (L.drop E0)
    rw [List.length_drop] at this; omega
  have inner := (GcOK.block (id := 2) ((i_loop hL (Int.ofNat B) (nuV acc) (baseN c r) (nuHp acc) (L.drop E0) E0 rfl g2).loop (by intro h; cases h))).row
  rw [hE] at inner
  have hx : (bs L).extract B E = bs (preN c r) := by rw [ext_bs (by omega) hEL, g4]
  have hb : (baseN c r == 10 || baseN c r == 16) = true := by unfold baseN; cases isHex c r <;> rfl
  have hlen : (preN c r).length ≤ 100000 := by omega
  have hG : nG (baseN c r) (bs (preN c r)) = true := by
    unfold nG; rw [hb, Bool.true_and]; exact decide_eq_true hlen
  have d := nu_d nG nD nK (bs L) B E (nuV acc) (baseN c r) (nuHp acc)
  rw [show (Nat.ble B E && Nat.ble E (bs L).size) = true by rw [Bool.and_eq_true]; exact ⟨Nat.ble_eq_true_of_le (by omega), Nat.ble_eq_true_of_le hEL⟩, cond_true, hx, hG, cond_true, show nK (baseN c r) (bs (preN c r)) = true from hk, cond_true] at d
  have gd := RowOK.go (base := 0) (RowOK.of_seeA nuΦ_ok (m := 20) (j := 20) (f := 44) (p := keeps 44) (ts := [0, 1, 5, 8, 9]) rfl nu_d5 d)
  have hmx : mxI (w64 (Int.ofNat B + 1)) (Int.ofNat E) = Int.ofNat E := by
    rw [show w64 (Int.ofNat B + 1) = Int.ofNat (B + 1) from w64_of (by simp; omega) (by simp; omega)]
    unfold mxI
    simp only [cond_true]
    split
    · rename_i hgt
      simp only [Int.ofNat_eq_natCast] at hgt ⊢
      omega
    · rfl
  refine ⟨E, ?_, g5, by omega, hEL⟩
  have ge : GoOK Tryz.prog 0 0 105 ((flat nuX).drop 11) (nuW (bs L) (Int.ofNat B) (nuV acc) (Int.ofNat E) (nD (baseN c r) (bs (preN c r)))) (nuHp acc) .normal (nuF (bs L) (Int.ofNat E) (nuV (acc ++ [(digF (baseN c r) (preN c r)).1]))) (nuHp (acc ++ [(digF (baseN c r) (preN c r)).1])) := by
    have hn : nD (baseN c r) (bs (preN c r)) = (digF (baseN c r) (preN c r)).1 := rfl
    rw [hn]
    generalize (digF (baseN c r) (preN c r)).1 = n
    cases acc with
    | nil =>
      have h := nu_e0 nG nD nK (bs L) (Int.ofNat B) (Int.ofNat E) n
      rw [hmx] at h
      have r0 := RowOK.go (base := 0) (RowOK.of_seeA nuΦ_ok (m := 20) (j := 20) (f := 44) (p := keeps 44) (ts := [0, 1, 5]) rfl nu_d6 h)
      exact GoOK.one r0 1 rfl rfl (fun x hx => by simp at hx; subst hx; exact gh_int _ _) (fun x hx => by
        simp only [nuF, List.mem_cons, List.not_mem_nil, or_false] at hx
        rcases hx with rfl | rfl | rfl
        · exact .inl ⟨rfl, gh_str _⟩
        · exact .inl ⟨rfl, gh_int _ _⟩
        · exact .inr ⟨1, 1, by omega, rfl, rfl⟩)
    | cons a q =>
      have h := nu_e1 nG nD nK (bs L) (Int.ofNat B) (Int.ofNat E) n q.length ((a :: q).map (Value.int .i64))
      rw [hmx, moreG_eq (by simp) (by simp at ha; omega) (by simp at ha; omega), cond_true] at h
      have r0 := RowOK.go (base := 0) (RowOK.of_seeA nuΦ_ok (m := 20) (j := 20) (f := 44) (p := keeps 44) (ts := [0, 1, 5]) rfl nu_d6 h)
      have eV : nuV (a :: q ++ [n]) = sl 0 (q.length + 1 + 1) 1 := by simp [nuV, sliV]
      have eH : nuHp (a :: q ++ [n]) = [some ⟨(a :: q).map (Value.int .i64) ++ [.int .i64 n], 3, none⟩] := by simp [nuHp]
      rw [eV, eH]
      exact GoOK.one r0 2 rfl rfl (fun x hx => by
        rcases List.mem_append.1 hx with hx | hx
        · exact nuHp_gh _ x hx
        · simp at hx; subst hx; exact gh_int _ _) (fun x hx => by
        simp only [nuF, List.mem_cons, List.not_mem_nil, or_false] at hx
        rcases hx with rfl | rfl | rfl
        · exact .inl ⟨rfl, gh_str _⟩
        · exact .inl ⟨rfl, gh_int _ _⟩
        · exact .inr ⟨q.length + 1 + 1, 1, by omega, rfl, rfl⟩)
  refine GoOK.code ?_
  rw [nuB_flat]
  refine (r_a h1 (nuV acc) (nuHp acc)).app (GcOK.row (e := outOf 1 .normal) (GcOK.block (id := 1) (GoOK.code ?_)))
  rw [nuX_flat]
  exact g1.app (inner.app (gd.app ge))
theorem r_bad {A : Nat} {c : UInt8} {r : List UInt8} {acc : List Int} (hd : L.drop A = c :: r) (hs : skipB (c.toNat : Int) = false) (hk : (digF (baseN c r) (preN c r)).2 = false) :
    GcOK Tryz.prog 0 0 105 nuB (nuF (bs L) (Int.ofNat A) (nuV acc)) (nuHp acc) .ret [(4, L1 [])] [] := by
  obtain ⟨h1, h2, h3⟩ := getD_drop hd
  obtain ⟨B, E0, g1, g2, g3, g4, g5, g6, g7⟩ := r_num hL hd hs (nuV acc) (nuHp acc)
  generalize hE : E0 + ((L.drop E0).takeWhile (contU (baseN c r))).length = E at *
  have hEL : E ≤ L.length := by
    have := tw_len (contU (baseN c r)) (L.drop E0)
    rw [List.length_drop] at this; omega
  have inner := (GcOK.block (id := 2) ((i_loop hL (Int.ofNat B) (nuV acc) (baseN c r) (nuHp acc) (L.drop E0) E0 rfl g2).loop (by intro h; cases h))).row
  rw [hE] at inner
  have hx : (bs L).extract B E = bs (preN c r) := by rw [ext_bs (by omega) hEL, g4]
  have hb : (baseN c r == 10 || baseN c r == 16) = true := by unfold baseN; cases isHex c r <;> rfl
  have hG : nG (baseN c r) (bs (preN c r)) = true := by
    unfold nG; rw [hb, Bool.true_and]; exact decide_eq_true (show (preN c r).length ≤ 100000 by omega)
  have d := nu_dr nG nD nK (bs L) B E (nuV acc) (baseN c r) (nuHp acc)
  rw [show (Nat.ble B E && Nat.ble E (bs L).size) = true by rw [Bool.and_eq_true]; exact ⟨Nat.ble_eq_true_of_le (by omega), Nat.ble_eq_true_of_le hEL⟩, cond_true, hx, hG, cond_true, show nK (baseN c r) (bs (preN c r)) = false from hk, cond_false] at d
  have gd := GoOK.freeze (F2 := [(4, L1 [])]) (RowOK.go (base := 0) (RowOK.of_seeA (F2 := [(4, nilV)]) nuΦ_ok (m := 20) (j := 20) (f := 44) (p := keeps 44) (ts := [4]) rfl nu_d5 d)) (fun e he => by
    simp only [List.mem_cons, List.not_mem_nil, or_false] at he
    subst he
    exact ⟨nilV, rfl, .inr (.inr ⟨1, rfl, rfl⟩)⟩)
  refine GoOK.code ?_
  rw [nuB_flat]
  refine (r_a h1 (nuV acc) (nuHp acc)).app (GcOK.row (e := outOf 1 .ret) (GcOK.block (id := 1) (GoOK.code ?_)))
  rw [nuX_flat]
  exact g1.app (inner.app (GoOK.left gd (by intro h; cases h) _))
theorem n_loop : ∀ (f : Nat) (A : Nat) (acc : List Int), A ≤ L.length → L.length - A < f → acc.length + (L.length - A) ≤ 1000000 →
    (∃ r A', numO f (L.drop A) acc = some r ∧ r.length ≤ 1000000 ∧ Lp Tryz.prog 105 nuB (nuF (bs L) (Int.ofNat A) (nuV acc)) (nuHp acc) (.exit 0) (nuF (bs L) A' (nuV r)) (nuHp r)) ∨ (numO f (L.drop A) acc = none ∧ Lp Tryz.prog 105 nuB (nuF (bs L) (Int.ofNat A) (nuV acc)) (nuHp acc) .ret [(4, L1 [])] [])
  | 0, A, acc, h1, h2, h3 => by omega
  | f + 1, A, acc, h1, h2, h3 => by
    cases hd : L.drop A with
    | nil =>
      have hlt : ¬ A < L.length := fun h => by rw [List.drop_eq_getElem_cons h] at hd; cases hd
      exact .inl ⟨acc, Int.ofNat A, rfl, by omega, Lp.last (r_out hlt _ _)⟩
    | cons c r =>
      obtain ⟨g1, g2, g3⟩ := getD_drop hd
      cases hs : skipB (c.toNat : Int) with
      | true =>
        have st := r_skip hL hd hs (nuV acc) (nuHp acc)
        have e : numO (f + 1) (c :: r) acc = numO f r acc := by simp only [numO, hs, cond_true]
        rw [e, ← g3]
        rcases n_loop f (A + 1) acc (by omega) (by omega) (by omega) with ⟨q, A', k1, k2, k3⟩ | ⟨k1, k2⟩
        · exact .inl ⟨q, A', k1, k2, Lp.step st k3⟩
        · exact .inr ⟨k1, Lp.step st k2⟩
      | false =>
        cases hk : (digF (baseN c r) (preN c r)).2 with
        | true =>
          obtain ⟨A', st, hA, hlt, hle⟩ := r_good hL (acc := acc) (by omega) hd hs hk
          have e : numO (f + 1) (c :: r) acc = numO f (restN c r) (acc ++ [(digF (baseN c r) (preN c r)).1]) := by simp only [numO, hs, hk, cond_true, cond_false]
          rw [e, ← hA]
          rcases n_loop f A' (acc ++ [(digF (baseN c r) (preN c r)).1]) hle (by omega) (by simp; omega) with ⟨q, A2, k1, k2, k3⟩ | ⟨k1, k2⟩
          · exact .inl ⟨q, A2, k1, k2, Lp.step st k3⟩
          · exact .inr ⟨k1, Lp.step st k2⟩
        | false =>
          have e : numO (f + 1) (c :: r) acc = none := by simp only [numO, hs, hk, cond_false]
          rw [e]
          exact .inr ⟨rfl, Lp.last (r_bad hL hd hs hk)⟩
theorem numsOK {A : Nat} (hA : A ≤ L.length) : PureOK Tryz.prog 44 [.string (bs L), .int .i64 (Int.ofNat A)] (L1 ((numO (L.length - A + 1) (L.drop A) []).getD [])) := by
  have fin : ∀ r, GoOK Tryz.prog 0 0 105 (flat (bodyOf 44)) (enterF 0 [.string (bs L), .int .i64 (Int.ofNat A)]) [] .ret [(4, L1 r)] [] → PureOK Tryz.prog 44 [.string (bs L), .int .i64 (Int.ofNat A)] (L1 r) := fun r h => by
    obtain ⟨fn, f1, f2, f3, f4⟩ := fnOf fn44
    exact PureOK.of_call (CallOK.of_go noOK (f := 44) (fn := fn) (c := bodyOf 44) (args := [.string (bs L), .int .i64 (Int.ofNat A)]) (l := [L1 r]) (H := []) f1 f2 (by rw [f3]; simp) (by rw [f3]; exact GoOK.code h) (.inr rfl) (by rw [f4]; rfl)) (Gh.L1 r)
  have g0 := RowOK.go (base := 0) (RowOK.of_seeA nuΦ_ok (m := 20) (j := 20) (f := 44) (p := keeps 44) (ts := [0, 1, 5]) rfl nu_d1 (nu_head nG nD nK (bs L) (Int.ofNat A)))
  rcases n_loop hL (L.length - A + 1) A [] hA (by omega) (by simp; omega) with ⟨r, A', k1, k2, k3⟩ | ⟨k1, k2⟩
  · rw [k1]
    refine fin r ?_
    rw [nu_flat]
    have lp := (GcOK.block (id := 0) (k3.loop (by intro h; cases h))).row
    have fz : GoOK Tryz.prog 0 0 105 [.block 0 (.loop nuB)] (nuF (bs L) (Int.ofNat A) (nuV [])) (nuHp []) .normal [(5, L1 r)] [] := by
      refine GoOK.freeze lp (fun e he => ?_)
      simp only [List.mem_cons, List.not_mem_nil, or_false] at he
      subst he
      refine ⟨nuV r, rfl, ?_⟩
      cases r with
      | nil => exact .inr (.inr ⟨1, rfl, rfl⟩)
      | cons a q =>
        refine .inr (.inl ⟨0, q.length + 1, 1, (a :: q).map (Value.int .i64), 3, by omega, rfl, rfl, by simp, nuHp_gh _, ?_⟩)
        rw [List.take_of_length_le (by simp)]
        rfl
    have tl : GoOK Tryz.prog 0 0 105 ((flat (bodyOf 44)).drop 3) [(5, L1 r)] [] .ret [(4, L1 r)] [] :=
      RowOK.go (RowOK.of_seeA nuΦ_ok (m := 20) (j := 20) (f := 44) (p := keeps 44) (ts := [4]) rfl nu_d7 (nu_end nG nD nK (L1 r) []))
    exact g0.app (fz.app tl)
  · rw [k1]
    refine fin [] ?_
    rw [nu_flat]
    exact g0.app (GoOK.left ((GcOK.block (id := 0) (k2.loop (by intro h; cases h))).row) (by intro h; cases h) _)
end
end Go.Proofs.YtgkicojmgokinaaGreatDoor.Ab
