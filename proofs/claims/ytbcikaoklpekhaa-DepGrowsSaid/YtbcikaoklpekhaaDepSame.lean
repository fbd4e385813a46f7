/- The reference's SameInts, told of lists. -/
import Derived.Test.YtbcikaoklpekhaaDepOps
namespace Go.Proofs.Ytbcikaoklpekhaa.Ab
open Go Go.RowKit
set_option linter.unusedVariables false
set_option linter.unusedSimpArgs false
set_option maxRecDepth 100000
noncomputable def siP (k l : Nat) : List Code := ((flat (bodyOf 14)).drop k).take l
noncomputable def siB : Code := loopIn (flat (bodyOf 14))[4]?
noncomputable def siRun (l : List Code) (F : Fr) (ts : List Nat) : Option (Exit × List (Option Value) × Heap) :=
  runL ((ctx noΦ).at_ 14) (callK (ctx noΦ) 20) 20 0 29 14 (keeps 14) l F [] (seeA ts)
def siF (a b : List Int) (k : Int) (r : Bool) : Fr := [(0, L1 a), (1, L1 b), (4, .bool r), (5, .int .i64 k)]
def ldI (xs : List Int) (k : Nat) : Value := ((xs.map (Value.int .i64)).drop (k * 1)).getD 0 undef
def ldG (xs : List Int) (k : Nat) (z : Res) : Res := bif decide (Int.ofNat k < Int.ofNat xs.length) && true then bif Nat.blt 0 ((xs.map (Value.int .i64)).drop (k * 1)).length && isInt .i64 (ldI xs k) then z else none else none
theorem fn14 : sigOf 14 = some (29, [.tmp 4]) := by kernel_rfl
theorem si_flat : flat (bodyOf 14) = siP 0 4 ++ ([.block 0 (.loop siB)] ++ siP 5 2) := by kernel_rfl
theorem si_head (a b : List Int) : siRun (siP 0 4) (enterF 0 [L1 a, L1 b]) [0, 1, 4, 5] =
    bif Int.ofNat a.length != Int.ofNat b.length then some (.ret, [some (L1 a), some (L1 b), some (.bool false), none], []) else some (.normal, (siF a b 0 false).map (fun e => some e.2), []) := by kernel_rfl
theorem si_head4 (a b : List Int) : siRun (siP 0 4) (enterF 0 [L1 a, L1 b]) [4] =
    bif Int.ofNat a.length != Int.ofNat b.length then some (.ret, [some (.bool false)], []) else some (.normal, [some (.bool false)], []) := by kernel_rfl
theorem si_tail (a b : List Int) (k : Int) : siRun (siP 5 2) (siF a b k false) [4] = some (.ret, [some (.bool true)], []) := by kernel_rfl
theorem si_rnd (a b : List Int) (k : Nat) : siRun (flat siB) (siF a b (Int.ofNat k) false) [0, 1, 4, 5] =
    bif decide (Int.ofNat k < Int.ofNat a.length) then ldG a k (ldG b k (bif toInt (ldI a k) == toInt (ldI b k) then some (.normal, (siF a b (w64 (Int.ofNat k + 1)) false).map (fun e => some e.2), [])
      else some (.ret, (siF a b (Int.ofNat k) false).map (fun e => some e.2), [])))
    else some (.exit 0, (siF a b (Int.ofNat k) false).map (fun e => some e.2), []) := by kernel_rfl
theorem ldI_eq {xs : List Int} {k : Nat} (h : k < xs.length) : ldI xs k = .int .i64 (xs.getD k 0) := by
  unfold ldI
  rw [Nat.mul_one, List.getD_eq_getElem?_getD, List.getElem?_drop, Nat.add_zero, List.getElem?_map, List.getElem?_eq_getElem h, List.getD_eq_getElem?_getD, List.getElem?_eq_getElem h]; rfl
theorem ldG_eq {xs : List Int} {k : Nat} (h : k < xs.length) (z : Res) : ldG xs k z = z := by
  unfold ldG
  rw [ldI_eq h, show (decide (Int.ofNat k < Int.ofNat xs.length) && true) = true by rw [Bool.and_true]; exact decide_eq_true (by simp; omega),
    show (Nat.blt 0 ((xs.map (Value.int .i64)).drop (k * 1)).length && isInt .i64 (.int .i64 (xs.getD k 0))) = true by
      rw [Bool.and_eq_true]; exact ⟨by rw [Nat.blt_eq]; simp; omega, rfl⟩]
  rfl
theorem differ : ∀ {a b : List Int}, a.length = b.length → a ≠ b → ∃ m, m < a.length ∧ (∀ k, k < m → a.getD k 0 = b.getD k 0) ∧ a.getD m 0 ≠ b.getD m 0
  | [], [], _, h => absurd rfl h
  | [], _ :: _, h, _ => by simp at h
  | _ :: _, [], h, _ => by simp at h
  | x :: a, y :: b, hl, h => by
    by_cases hx : x = y
    · subst hx
      obtain ⟨m, h1, h2, h3⟩ := differ (a := a) (b := b) (by simpa using hl) (fun e => h (by rw [e]))
      refine ⟨m + 1, by simp; omega, fun k hk => ?_, by simpa using h3⟩
      cases k with
      | zero => rfl
      | succ k => simpa using h2 k (by omega)
    · exact ⟨0, by simp, fun k hk => by omega, by simpa using hx⟩
theorem sdr1 : (siP 0 4).all (drawsOK ((ctx noΦ).dr 14)) = true := by kernel_rfl
theorem sdr2 : (siP 5 2).all (drawsOK ((ctx noΦ).dr 14)) = true := by kernel_rfl
theorem sdr3 : (flat siB).all (drawsOK ((ctx noΦ).dr 14)) = true := by kernel_rfl
theorem same_call {a b : List Int} {e : Exit} {F' : Fr} {r : Bool} (h : RowOK Try.prog 0 29 (flat (bodyOf 14)) (enterF 0 [L1 a, L1 b]) [] e F' []) (he : e = .normal ∨ e = .ret) (hr : F'.get 4 = some (.bool r)) : PureOK Try.prog 14 [L1 a, L1 b] (.bool r) := by
  obtain ⟨fn, h1, h2, h3, h4⟩ := fnOf fn14
  have hc := CallOK.of_code noOK (f := 14) (fn := fn) (l := [.bool r]) (args := [L1 a, L1 b]) h1 h2 (by rw [h3]; simp) (RowOK.code (by rw [h3]; exact h)) he (by rw [h4]; simp only [resA, hr])
  exact PureOK.of_call hc (Gh.plain rfl)
theorem sameInts (a b : List Int) (ha : a.length ≤ 1048576) : PureOK Try.prog 14 [L1 a, L1 b] (.bool (decide (a = b))) := by
  by_cases hl : a.length = b.length
  · have e1 : (Int.ofNat a.length != Int.ofNat b.length) = false := by rw [hl]; simp
    have hd := si_head a b
    rw [e1, cond_false] at hd
    have r1 : RowOK Try.prog 0 29 (siP 0 4) (enterF 0 [L1 a, L1 b]) [] .normal (siF a b 0 false) [] := RowOK.of_seeA noOK (m := 20) (j := 20) (f := 14) (p := keeps 14) (ts := [0, 1, 4, 5]) rfl sdr1 hd
    have rnd : ∀ k, k < a.length → a.getD k 0 = b.getD k 0 → CodeOK Try.prog 0 29 siB (siF a b (Int.ofNat k) false) [] .normal (siF a b (Int.ofNat (k + 1)) false) [] := fun k hk he => by
      have h := si_rnd a b k
      rw [ldG_eq hk, ldG_eq (hl ▸ hk), ldI_eq hk, ldI_eq (hl ▸ hk), w64_of (by simp; omega) (by simp; omega), decide_eq_true (show Int.ofNat k < Int.ofNat a.length by simp; omega)] at h
      simp only [toInt, he, beq_self_eq_true, cond_true] at h
      exact RowOK.code (RowOK.of_seeA noOK (m := 20) (j := 20) (f := 14) (p := keeps 14) (ts := [0, 1, 4, 5]) rfl sdr3 h)
    by_cases hab : a = b
    · subst hab
      rw [decide_eq_true rfl]
      have hend : CodeOK Try.prog 0 29 siB (siF a a (Int.ofNat a.length) false) [] (.exit 0) (siF a a (Int.ofNat a.length) false) [] := by
        have h := si_rnd a a a.length
        rw [decide_eq_false (by omega), cond_false] at h
        exact RowOK.code (RowOK.of_seeA noOK (m := 20) (j := 20) (f := 14) (p := keeps 14) (ts := [0, 1, 4, 5]) rfl sdr3 h)
      have lp := CodeOK.loop (P := Try.prog) (lo := 0) (n := 29) (c := siB) (fun k => siF a a (Int.ofNat k) false) (fun _ => []) a.length (e := .exit 0) (by intro h; cases h) (fun k hk => rnd k hk rfl) hend
      have tl := RowOK.of_seeA (F2 := [(4, .bool true)]) noOK (m := 20) (j := 20) (f := 14) (p := keeps 14) (lo := 0) (n := 29) (ts := [4]) rfl sdr2 (si_tail a a (Int.ofNat a.length))
      have all := r1.app (RowOK.app (CodeOK.block (id := 0) lp).row tl)
      rw [← si_flat] at all
      exact same_call all (.inr rfl) rfl
    · rw [decide_eq_false hab]
      obtain ⟨m, h1, h2, h3⟩ := differ hl hab
      have hend : CodeOK Try.prog 0 29 siB (siF a b (Int.ofNat m) false) [] .ret (siF a b (Int.ofNat m) false) [] := by
        have h := si_rnd a b m
        rw [ldG_eq h1, ldG_eq (hl ▸ h1), ldI_eq h1, ldI_eq (hl ▸ h1), decide_eq_true (show Int.ofNat m < Int.ofNat a.length by simp; omega)] at h
        simp only [toInt, beq_eq_false_iff_ne.2 h3, cond_true, cond_false] at h
        exact RowOK.code (RowOK.of_seeA noOK (m := 20) (j := 20) (f := 14) (p := keeps 14) (ts := [0, 1, 4, 5]) rfl sdr3 h)
      have lp := CodeOK.loop (P := Try.prog) (lo := 0) (n := 29) (c := siB) (fun k => siF a b (Int.ofNat k) false) (fun _ => []) m (e := .ret) (by intro h; cases h) (fun k hk => rnd k (by omega) (h2 k hk)) hend
      have blk := (CodeOK.block (id := 0) lp).row
      have all := r1.app ((RowOK.left blk (by intro h; cases h) (siP 5 2)))
      rw [← si_flat] at all
      exact same_call all (.inr rfl) rfl
  · have e1 : (Int.ofNat a.length != Int.ofNat b.length) = true := bne_iff_ne.2 (fun e => hl (Int.ofNat.inj e))
    have hd := si_head4 a b
    rw [e1, cond_true] at hd
    rw [decide_eq_false (fun e => hl (by rw [e]))]
    have r1 := RowOK.of_seeA (F2 := [(4, .bool false)]) noOK (m := 20) (j := 20) (f := 14) (p := keeps 14) (lo := 0) (n := 29) (ts := [4]) rfl sdr1 hd
    have all := r1.left (by intro h; cases h) ([.block 0 (.loop siB)] ++ siP 5 2)
    rw [← si_flat] at all
    exact same_call all (.inr rfl) rfl
end Go.Proofs.Ytbcikaoklpekhaa.Ab
