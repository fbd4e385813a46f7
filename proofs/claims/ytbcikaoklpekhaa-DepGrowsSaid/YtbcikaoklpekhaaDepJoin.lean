/- Lists of whole numbers, joined: all of some lists, rising, each once. -/
import Derived.Test.YtbcikaoklpekhaaDepLists
namespace Go.Proofs.Ytbcikaoklpekhaa.Ab
open Go Go.RowKit
set_option linter.unusedVariables false
set_option linter.unusedSimpArgs false
/-- All, rising, each once. -/
def jn (xs : List Int) : List Int := Go.Lib.compact (xs.mergeSort fun x y => decide (x ≤ y))
def ints (cells : List Value) : List Int := cells.map toInt
noncomputable def isInts (cells : List Value) (n : Nat) : Bool := @decide (∃ zs : List Int, cells = zs.map (Value.int .i64) ∧ n = zs.length ∧ zs.length < 1073741824) (Classical.propDecidable _)
theorem ints_map (zs : List Int) : ints (zs.map (Value.int .i64)) = zs := by
  induction zs with
  | nil => rfl
  | cons z zs ih => simp only [ints, List.map_cons, toInt] at ih ⊢; rw [ih]
noncomputable def joinΦ (z : Bool) : Oracle := fun lo f args H => match f with
  | 50 => match args with
    | [.slice none 0 0, .int .i64 x] => match z with
      | true => some [(decide (x = 0), .slice none 0 0, H)]
      | false => some [(decide (0 < x) && decide (x ≤ 1073741824), .slice (some ⟨H.length, 0, none⟩) 0 1, H ++ [some ⟨[], 3, none⟩])]
    | _ => none
  | 40 => match args with
    | [.slice none 0 0] => some [(true, .tuple #[], H)]
    | [.slice (some ⟨i, 0, none⟩) n 1] => match H[i]? with
      | some (some ⟨cells, t, none⟩) => some [(Nat.ble lo i && isInts cells n, .tuple #[], H.set i (some ⟨((ints cells).mergeSort fun x y => decide (x ≤ y)).map (Value.int .i64), t, none⟩))]
      | _ => none
    | _ => none
  | 41 => match args with
    | [.slice none 0 0] => some [(true, .slice none 0 0, H)]
    | [.slice (some ⟨i, 0, none⟩) n 1] => match H[i]? with
      | some (some ⟨cells, t, none⟩) => some [(Nat.ble lo i && isInts cells n, .slice (some ⟨i, 0, none⟩) (Go.Lib.compact (ints cells)).length 1, H.set i (some ⟨(Go.Lib.compact (ints cells) ++ List.replicate ((ints cells).length - (Go.Lib.compact (ints cells)).length) 0).map (Value.int .i64), t, none⟩))]
      | _ => none
    | _ => none
  | _ => none
theorem isInts_spec {cells : List Value} {n : Nat} (h : isInts cells n = true) : ∃ zs : List Int, cells = zs.map (Value.int .i64) ∧ n = zs.length ∧ zs.length < 1073741824 := @of_decide_eq_true _ (Classical.propDecidable _) h
theorem joinΦ_ok (z : Bool) : CtxOK Try.prog (ctx (joinΦ z)) := ctxOK fun lo f args H l v H' h hm => by
  unfold joinΦ at h
  split at h
  · split at h
    · refine ⟨?_, rfl⟩
      cases z with
      | true =>
        cases h
        simp only [List.mem_cons, List.not_mem_nil, or_false, Prod.mk.injEq] at hm
        obtain ⟨h1, rfl, rfl⟩ := hm
        obtain rfl := of_decide_eq_true h1.symm
        exact growNil0
      | false =>
        cases h
        simp only [List.mem_cons, List.not_mem_nil, or_false, Prod.mk.injEq] at hm
        obtain ⟨h1, rfl, rfl⟩ := hm
        have h2 := h1.symm
        simp only [Bool.and_eq_true, decide_eq_true_eq] at h2
        exact growNil h2.1 h2.2
    · cases h
  · split at h
    · cases h
      simp only [List.mem_cons, List.not_mem_nil, or_false, Prod.mk.injEq] at hm
      obtain ⟨_, rfl, rfl⟩ := hm
      exact ⟨sortNil, rfl⟩
    · split at h
      · rename_i i n _ cells t hb
        cases h
        simp only [List.mem_cons, List.not_mem_nil, or_false, Prod.mk.injEq] at hm
        obtain ⟨h1, rfl, rfl⟩ := hm
        have h1 := h1.symm
        rw [Bool.and_eq_true] at h1
        obtain ⟨zs, rfl, rfl, h3⟩ := isInts_spec h1.2
        rw [ints_map]
        exact ⟨sortCall (Nat.le_of_ble_eq_true h1.1) hb (by omega), rfl⟩
      · cases h
    · cases h
  · split at h
    · cases h
      simp only [List.mem_cons, List.not_mem_nil, or_false, Prod.mk.injEq] at hm
      obtain ⟨_, rfl, rfl⟩ := hm
      exact ⟨compactNil, rfl⟩
    · split at h
      · rename_i i n _ cells t hb
        cases h
        simp only [List.mem_cons, List.not_mem_nil, or_false, Prod.mk.injEq] at hm
        obtain ⟨h1, rfl, rfl⟩ := hm
        have h1 := h1.symm
        rw [Bool.and_eq_true] at h1
        obtain ⟨zs, rfl, rfl, h3⟩ := isInts_spec h1.2
        rw [ints_map]
        exact ⟨compactCall (Nat.le_of_ble_eq_true h1.1) hb (by omega), rfl⟩
      · cases h
    · cases h
  · cases h
/-- What is asked where a list is put behind another. -/
def putG (x : List Int) (n : Nat) : Bool := (x.map (Value.int .i64)).all Ab.one && (Nat.ble (n * 8) 140737488355328 && Nat.ble n 9223372036854775807)
def w64 (x : Int) : Int := IntKind.i64.wrap x
noncomputable def srt (xs : List Int) : List Int := xs.mergeSort fun x y => decide (x ≤ y)
noncomputable def endG (cs : List Value) (n : Nat) : Option (Nat × List Value) :=
  bif isInts cs n then bif isInts ((srt (ints cs)).map (Value.int .i64)) n then
    some ((Go.Lib.compact (ints ((srt (ints cs)).map (Value.int .i64)))).length,
      (Go.Lib.compact (ints ((srt (ints cs)).map (Value.int .i64))) ++ List.replicate ((ints ((srt (ints cs)).map (Value.int .i64))).length - (Go.Lib.compact (ints ((srt (ints cs)).map (Value.int .i64)))).length) 0).map (Value.int .i64))
    else none else none
set_option maxRecDepth 100000 in
theorem join2_run (a b : List Int) : callK (ctx (joinΦ false)) 20 0 29 [gs 1 [L1 a, L1 b] 2] [] (fun v H => match v, H with | .slice (some ⟨2, 0, none⟩) n 1, [none, none, some ⟨cs, 3, none⟩] => some (n, cs) | _, _ => none) =
    bif decide (w64 (0 + Int.ofNat a.length) < 0) then none else bif decide (w64 (w64 (0 + Int.ofNat a.length) + Int.ofNat b.length) < 0) then none else
    bif decide (0 < w64 (w64 (0 + Int.ofNat a.length) + Int.ofNat b.length)) && decide (w64 (w64 (0 + Int.ofNat a.length) + Int.ofNat b.length) ≤ 1073741824) then
    bif putG a (0 + a.length) then bif Nat.beq ([] ++ a.map (Value.int .i64)).length ((0 + a.length) * 1) && putG b (0 + a.length + b.length) then
    endG ([] ++ a.map (Value.int .i64) ++ b.map (Value.int .i64)) (0 + a.length + b.length) else none else none else none := by kernel_rfl
set_option maxRecDepth 100000 in
theorem join3_run (a b c : List Int) : callK (ctx (joinΦ false)) 20 0 29 [gs 1 [L1 a, L1 b, L1 c] 3] [] (fun v H => match v, H with | .slice (some ⟨3, 0, none⟩) n 1, [none, none, none, some ⟨cs, 3, none⟩] => some (n, cs) | _, _ => none) =
    bif decide (w64 (0 + Int.ofNat a.length) < 0) then none else bif decide (w64 (w64 (0 + Int.ofNat a.length) + Int.ofNat b.length) < 0) then none else
    bif decide (w64 (w64 (w64 (0 + Int.ofNat a.length) + Int.ofNat b.length) + Int.ofNat c.length) < 0) then none else
    bif decide (0 < w64 (w64 (w64 (0 + Int.ofNat a.length) + Int.ofNat b.length) + Int.ofNat c.length)) && decide (w64 (w64 (w64 (0 + Int.ofNat a.length) + Int.ofNat b.length) + Int.ofNat c.length) ≤ 1073741824) then
    bif putG a (0 + a.length) then bif Nat.beq ([] ++ a.map (Value.int .i64)).length ((0 + a.length) * 1) && putG b (0 + a.length + b.length) then
    bif Nat.beq ([] ++ a.map (Value.int .i64) ++ b.map (Value.int .i64)).length ((0 + a.length + b.length) * 1) && putG c (0 + a.length + b.length + c.length) then
    endG ([] ++ a.map (Value.int .i64) ++ b.map (Value.int .i64) ++ c.map (Value.int .i64)) (0 + a.length + b.length + c.length) else none else none else none else none := by kernel_rfl
theorem isInts_map (zs : List Int) {n : Nat} (hn : n = zs.length) (h : zs.length < 1073741824) : isInts (zs.map (Value.int .i64)) n = true :=
  @decide_eq_true _ (Classical.propDecidable _) ⟨zs, rfl, hn, h⟩
theorem w64_of {x : Int} (h0 : 0 ≤ x) (h1 : x < 9223372036854775808) : w64 x = x := by
  simp only [w64, IntKind.wrap, IntKind.bits, IntKind.signed]
  simp
  omega
theorem putG_of {x : List Int} {n : Nat} (h : n ≤ 1073741824) : putG x n = true := by
  simp only [putG, Bool.and_eq_true, List.all_map, List.all_eq_true]
  exact ⟨fun v _ => rfl, Nat.ble_eq_true_of_le (by omega), Nat.ble_eq_true_of_le (by omega)⟩
theorem endG_of {xs : List Int} {n : Nat} (hn : n = xs.length) (h : xs.length < 1073741824) : endG (xs.map (Value.int .i64)) n = some ((jn xs).length, (jn xs ++ List.replicate (xs.length - (jn xs).length) 0).map (Value.int .i64)) := by
  have h2 : (srt xs).length = xs.length := by simp [srt]
  unfold endG
  rw [isInts_map xs hn h, ints_map, isInts_map (srt xs) (by omega) (by omega), ints_map, h2]
  rfl
theorem Gh.int (k : IntKind) (n : Int) : Gh (.int k n) := Gh.plain rfl
theorem jn_le (xs : List Int) : (jn xs).length ≤ xs.length := Nat.le_trans (compact_le _) (by simp)
theorem jn_nil : jn [] = [] := by simp [jn, Go.Lib.compact, Go.Lib.compactUpTo]
theorem L1_take (xs : List Int) (k : Nat) : gs 1 (((xs ++ List.replicate k 0).map (Value.int .i64)).take (xs.length * 1)) xs.length = L1 xs := by
  rw [List.map_append, Nat.mul_one, List.take_left' (by simp)]; rfl
/-- nil, told as a list that holds nothing. -/
theorem CallOK.nil_gs {P : Program} {lo f : Nat} {args : List Value} {H H' : Heap} (h : CallOK P lo f args H (.slice none 0 0) H') (z : Nat) : CallOK P lo f args H (gs z [] 0) H' := fun M w rargs hR hv =>
  (h M w rargs hR hv).mono fun e w' ⟨M', rv, a, b, c⟩ => ⟨M', rv, a, tr_nil b, c⟩
theorem join2 (a b : List Int) (ha : a.length ≤ 1048576) (hb : b.length ≤ 1048576) : PureOK Try.prog 29 [gs 1 [L1 a, L1 b] 2] (L1 (jn (a ++ b))) := by
  by_cases h0 : a ++ b = []
  · obtain ⟨rfl, rfl⟩ : a = [] ∧ b = [] := by simpa using h0
    have h : callK (ctx (joinΦ true)) 20 0 29 [gs 1 [L1 [], L1 []] 2] [] (fun v H => some (v, H)) = some (.slice none 0 0, []) := by kernel_rfl
    obtain ⟨v, H', h1, h2, _⟩ := callK_sound (joinΦ_ok true) _ _ _ _ _ _ _ h
    cases h1
    have := h2.nil_gs 1
    rw [List.append_nil, jn_nil]
    exact PureOK.of_call this (Gh.L1 _)
  · have hl : 0 < a.length + b.length := by
      rcases Nat.eq_zero_or_pos (a ++ b).length with h | h
      · exact absurd (List.length_eq_zero_iff.1 h) h0
      · simpa using h
    have h := join2_run a b
    rw [w64_of (by simp) (by simp; omega), w64_of (by simp; omega) (by simp; omega), decide_eq_false (by simp), decide_eq_false (by simp; omega), decide_eq_true (by simp; omega), decide_eq_true (by simp; omega), putG_of (by omega), putG_of (by omega)] at h
    simp only [cond_true, cond_false, Bool.and_true, List.nil_append, List.length_map, Nat.mul_one, Nat.zero_add, Nat.beq_refl] at h
    rw [← List.map_append, endG_of (by simp) (by simp; omega)] at h
    obtain ⟨v, H', h1, h2, _⟩ := callK_sound (joinΦ_ok false) _ _ _ _ _ _ _ h
    split at h1
    · cases h1
      have h3 := h2.froz rfl (by omega) (by omega) (i := 2) rfl (by simp) (fun x hx => by
        obtain ⟨n, _, rfl⟩ := List.mem_map.1 hx
        exact Gh.int _ _)
      rw [L1_take] at h3
      exact PureOK.of_call h3 (Gh.L1 _)
    · cases h1
theorem join3 (a b c : List Int) (ha : a.length ≤ 1048576) (hb : b.length ≤ 1048576) (hc : c.length ≤ 1048576) : PureOK Try.prog 29 [gs 1 [L1 a, L1 b, L1 c] 3] (L1 (jn (a ++ b ++ c))) := by
  by_cases h0 : a ++ b ++ c = []
  · obtain ⟨rfl, rfl, rfl⟩ : a = [] ∧ b = [] ∧ c = [] := by simpa using h0
    have h : callK (ctx (joinΦ true)) 20 0 29 [gs 1 [L1 [], L1 [], L1 []] 3] [] (fun v H => some (v, H)) = some (.slice none 0 0, []) := by kernel_rfl
    obtain ⟨v, H', h1, h2, _⟩ := callK_sound (joinΦ_ok true) _ _ _ _ _ _ _ h
    cases h1
    have := h2.nil_gs 1
    rw [List.append_nil, List.append_nil, jn_nil]
    exact PureOK.of_call this (Gh.L1 _)
  · have hl : 0 < a.length + b.length + c.length := by
      rcases Nat.eq_zero_or_pos (a ++ b ++ c).length with h | h
      · exact absurd (List.length_eq_zero_iff.1 h) h0
      · simpa [Nat.add_assoc] using h
    have h := join3_run a b c
    rw [w64_of (by simp) (by simp; omega), w64_of (by simp; omega) (by simp; omega), w64_of (by simp; omega) (by simp; omega), decide_eq_false (by simp), decide_eq_false (by simp; omega), decide_eq_false (by simp; omega), decide_eq_true (by simp; omega), decide_eq_true (by simp; omega), putG_of (by omega), putG_of (by omega), putG_of (by omega)] at h
    simp only [cond_true, cond_false, Bool.and_true, List.nil_append, List.length_map, List.length_append, Nat.mul_one, Nat.zero_add, Nat.beq_refl] at h
    rw [← List.map_append, ← List.map_append, endG_of (by simp [Nat.add_assoc]) (by simp; omega)] at h
    obtain ⟨v, H', h1, h2, _⟩ := callK_sound (joinΦ_ok false) _ _ _ _ _ _ _ h
    split at h1
    · cases h1
      have h3 := h2.froz rfl (by omega) (by omega) (i := 3) rfl (by simp) (fun x hx => by
        obtain ⟨n, _, rfl⟩ := List.mem_map.1 hx
        exact Gh.int _ _)
      rw [L1_take] at h3
      exact PureOK.of_call h3 (Gh.L1 _)
    · cases h1
end Go.Proofs.Ytbcikaoklpekhaa.Ab
