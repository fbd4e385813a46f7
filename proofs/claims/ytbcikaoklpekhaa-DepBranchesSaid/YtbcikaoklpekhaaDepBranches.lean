/- DepBranches: true for every two numbers and either way. -/
import Derived.Test.YtbcikaoklpekhaaDepBranchesRuns
namespace Go.Proofs.Ytbcikaoklpekhaa.Ab
open Go Go.RowKit
set_option linter.unusedVariables false
set_option linter.unusedSimpArgs false
set_option maxRecDepth 100000
/-! ### The items, and what they make -/
def brW (op a b c i : Int) : Int := if op = 13 then (if a = 1 then 172163 else 172291) else if op = 5 then 2131043 else 32871
theorem brG_of {op a b c i w : Int} (h : PureOK Try.prog 13 [.int .i64 op, .int .i64 a, .int .i64 b, .int .i64 c, .int .u32 i] (.int .u32 w)) (e : brW op a b c i = w) : lwG brW op a b c i = true :=
  isPure_of (by rw [e]; exact h) (plains_gh rfl)
def ldW (k : Nat) : Int := if k % 2 = 0 then 172163 else 172291
def bcW (j : Bool) : Int := bif j then 32871 else 2131043
/-- The items of so many rounds; the branch ahead of load a. -/
def brL (a : Nat) (j : Bool) : Nat → List Item
  | 0 => []
  | k + 1 => brL a j k ++ (if k = a then [mkI (bcW j)] else []) ++ [mkI (ldW k)]
def qL : OpT := (opF 13 0 false false 0 0 0 false).1
def lastE (k : Nat) : List Int := if k = 0 then [] else [Int.ofNat (2 * ((k - 1) / 2))]
def lastO (k : Nat) : List Int := if k < 2 then [] else [Int.ofNat (2 * ((k - 2) / 2) + 1)]
/-- What is wanted. -/
def wantB (a : Nat) (j : Bool) (i : Nat) : Bool := (i % 2 == 0 && decide (a ≤ i + 2)) || (!j && (i % 2 == 1 && decide (a ≤ i + 2)))
def wantL (a : Nat) (j : Bool) (k : Nat) : List Int := ((List.range k).filter (wantB a j)).map Int.ofNat
theorem want_mem (a : Nat) (j : Bool) (x : Int) : x ∈ lastE a ++ (bif j then [] else lastO a) ↔ x ∈ wantL a j a := by
  have e : x ∈ wantL a j a ↔ ∃ i : Nat, i < a ∧ (i % 2 = 0 ∧ a ≤ i + 2 ∨ j = false ∧ i % 2 = 1 ∧ a ≤ i + 2) ∧ x = Int.ofNat i := by
    unfold wantL
    rw [List.mem_map]
    constructor
    · rintro ⟨i, hi, rfl⟩
      rw [List.mem_filter, List.mem_range] at hi
      refine ⟨i, hi.1, ?_, rfl⟩
      have h2 := hi.2
      unfold wantB at h2
      cases j <;> simp at h2 ⊢ <;> omega
    · rintro ⟨i, h1, h2, rfl⟩
      refine ⟨i, List.mem_filter.2 ⟨List.mem_range.2 h1, ?_⟩, rfl⟩
      unfold wantB
      cases j <;> simp at h2 ⊢ <;> omega
  rw [e, List.mem_append]
  have e1 : x ∈ lastE a ↔ a ≠ 0 ∧ x = Int.ofNat (2 * ((a - 1) / 2)) := by
    unfold lastE; split <;> simp_all
  have e2 : x ∈ (bif j then [] else lastO a) ↔ j = false ∧ 2 ≤ a ∧ x = Int.ofNat (2 * ((a - 2) / 2) + 1) := by
    unfold lastO
    cases j with
    | true => simp
    | false =>
      simp only [cond_false, true_and]
      split
      · simp; omega
      · simp; omega
  rw [e1, e2]
  constructor
  · rintro (⟨h1, rfl⟩ | ⟨h1, h2, rfl⟩)
    · exact ⟨2 * ((a - 1) / 2), by omega, .inl (by omega), rfl⟩
    · exact ⟨2 * ((a - 2) / 2) + 1, by omega, .inr ⟨h1, by omega, by omega⟩, rfl⟩
  · rintro ⟨i, h1, h2, rfl⟩
    rcases h2 with ⟨h2, h3⟩ | ⟨h2, h3, h4⟩
    · exact .inl ⟨by omega, by congr 1; omega⟩
    · exact .inr ⟨h2, by omega, by congr 1; omega⟩
theorem want_rise (a : Nat) (j : Bool) (k : Nat) : (wantL a j k).Pairwise (· < ·) := by
  unfold wantL
  rw [List.pairwise_map]
  exact (List.pairwise_lt_range.filter _).imp (fun h => by simp; omega)
theorem jn_want (a : Nat) (j : Bool) : jn ([] ++ lastE a ++ (bif j then [] else lastO a)) = wantL a j a :=
  jn_eq (want_rise a j a) (fun x => by rw [List.nil_append]; exact want_mem a j x)
/-- What holds behind so many rounds. -/
structure BrS (a : Nat) (j : Bool) (k : Nat) (s : St) : Prop where
  r0 : s.R 0 = []
  r5 : s.R 5 = []
  r1 : s.R 1 = lastE k
  r2 : s.R 2 = lastO k
  ctrl : s.ctrl = if k ≤ a then [] else wantL a j a
  len : s.ops.length = k
  at_ : ∀ i r, s.ops[i]? = some r → r.ctrl = if i < a then [] else wantL a j a
theorem br_load {a : Nat} {j : Bool} {k : Nat} {s : St} (c : List Int) (r0 : s.R 0 = []) (r5 : s.R 5 = []) (r1 : s.R 1 = lastE k) (r2 : s.R 2 = lastO k) (hc : s.ctrl = if k < a then [] else wantL a j a) (len : s.ops.length = k)
    (at_ : ∀ i r, s.ops[i]? = some r → r.ctrl = if i < a then [] else wantL a j a) : BrS a j (k + 1) (itemF s (mkI (ldW k))) := by
  have key : ∀ (rd : Int) (w : Int), dec w = (⟨13, rd, 5, 0, 0, 0, false, false⟩, true) → (rd = 1 ∧ k % 2 = 0 ∨ rd = 2 ∧ k % 2 = 1) → BrS a j (k + 1) (itemF s (mkI w)) := by
    intro rd w hd hr
    rw [itemF_inst (x := mkI w) hd rfl, inst_lw _ _ _ _ _ _ (by rcases hr with ⟨rfl, _⟩ | ⟨rfl, _⟩ <;> rfl), len]
    have hat : ∀ i r, (s.ops ++ [(⟨(opF 13 0 false false (mkI w).pa (mkI w).load (mkI w).value (mkI w).done).1, s.R (Int.toNat 5), [], s.ctrl⟩ : OpR)])[i]? = some r → r.ctrl = if i < a then [] else wantL a j a := fun i r hi => by
      by_cases h : i < s.ops.length
      · rw [List.getElem?_append_left h] at hi
        exact at_ i r hi
      · rw [List.getElem?_append_right (by omega)] at hi
        have hik : i = k := by
          have := (List.getElem?_eq_some_iff.1 hi).1
          simp at this; omega
        subst hik
        rw [show i - s.ops.length = 0 by omega] at hi
        simp at hi
        rw [← hi]; exact hc
    have hcc : s.ctrl = if k + 1 ≤ a then [] else wantL a j a := by
      rw [hc]
      by_cases h : k < a
      · rw [if_pos h, if_pos (by omega)]
      · rw [if_neg h, if_neg (by omega)]
    rcases hr with ⟨rfl, hp⟩ | ⟨rfl, hp⟩
    · refine ⟨r0, r5, ?_, ?_, hcc, by simp [len], hat⟩
      · show [Int.ofNat k] = lastE (k + 1)
        unfold lastE
        rw [if_neg (by omega)]
        congr 2; omega
      · show s.R 2 = lastO (k + 1)
        rw [r2]
        unfold lastO
        by_cases h : k < 2
        · rw [if_pos h, if_pos (by omega)]
        · rw [if_neg h, if_neg (by omega)]
          congr 2; omega
    · refine ⟨r0, r5, ?_, ?_, hcc, by simp [len], hat⟩
      · show s.R 1 = lastE (k + 1)
        rw [r1]
        unfold lastE
        rw [if_neg (by omega), if_neg (by omega)]
        congr 2; omega
      · show [Int.ofNat k] = lastO (k + 1)
        unfold lastO
        rw [if_neg (by omega)]
        congr 2; omega
  unfold ldW
  by_cases h : k % 2 = 0
  · rw [if_pos h]; exact key 1 _ d_Lw_1_5_0_0 (.inl ⟨rfl, h⟩)
  · rw [if_neg h]; exact key 2 _ d_Lw_2_5_0_0 (.inr ⟨rfl, by omega⟩)
theorem br_branch {a : Nat} {j : Bool} {s : St} (h : BrS a j a s) : (itemF s (mkI (bcW j))).R = s.R ∧ (itemF s (mkI (bcW j))).ctrl = wantL a j a ∧ (itemF s (mkI (bcW j))).ops = s.ops := by
  have hc : s.ctrl = [] := by rw [h.ctrl, if_pos (Nat.le_refl _)]
  cases j with
  | true =>
    have e : mkI (bcW true) = mkI 32871 := rfl
    rw [e, itemF_inst (x := mkI 32871) d_Jalr_0_1_0_0 rfl, inst_jalr]
    refine ⟨rfl, ?_, rfl⟩
    show jn (s.ctrl ++ s.R 1 ++ s.R 0) = _
    rw [hc, h.r1, h.r0]; exact jn_want a true
  | false =>
    have e : mkI (bcW false) = mkI 2131043 := rfl
    rw [e, itemF_inst (x := mkI 2131043) d_Beq_0_1_2_8 rfl, inst_beq]
    refine ⟨rfl, ?_, rfl⟩
    show jn (s.ctrl ++ s.R 1 ++ s.R 2) = _
    rw [hc, h.r1, h.r2]; exact jn_want a false
theorem runF_app (l l' : List Item) : runF (l ++ l') = l'.foldl itemF (runF l) := by simp [runF]
theorem br_state (a : Nat) (j : Bool) : ∀ k, BrS a j k (runF (brL a j k)) := by
  intro k
  induction k with
  | zero => exact ⟨rfl, rfl, rfl, rfl, by rw [if_pos (Nat.zero_le _)]; rfl, rfl, fun i r h => by simp [brL, runF, St.nil] at h⟩
  | succ k ih =>
    show BrS a j (k + 1) (runF (brL a j k ++ (if k = a then [mkI (bcW j)] else []) ++ [mkI (ldW k)]))
    rw [runF_app, runF_app]
    show BrS a j (k + 1) (itemF _ _)
    by_cases h : k = a
    · subst h
      rw [if_pos rfl]
      obtain ⟨b1, b2, b3⟩ := br_branch ih
      have hs : [mkI (bcW j)].foldl itemF (runF (brL k j k)) = itemF (runF (brL k j k)) (mkI (bcW j)) := rfl
      rw [hs]
      exact br_load [] (by rw [b1]; exact ih.r0) (by rw [b1]; exact ih.r5) (by rw [b1]; exact ih.r1) (by rw [b1]; exact ih.r2) (by rw [b2, if_neg (Nat.lt_irrefl _)]) (by rw [b3]; exact ih.len) (fun i r hi => by rw [b3] at hi; exact ih.at_ i r hi)
    · rw [if_neg h]
      show BrS a j (k + 1) (itemF (runF (brL a j k)) _)
      refine br_load [] ih.r0 ih.r5 ih.r1 ih.r2 ?_ ih.len ih.at_
      rw [ih.ctrl]
      by_cases h2 : k < a
      · rw [if_pos h2, if_pos (by omega)]
      · rw [if_neg h2, if_neg (by omega)]
theorem brL_len (a : Nat) (j : Bool) : ∀ k, (brL a j k).length ≤ 2 * k
  | 0 => Nat.le_refl _
  | k + 1 => by
    have := brL_len a j k
    simp only [brL, List.length_append, List.length_cons, List.length_nil]
    split <;> simp <;> omega
/-! ### The runs, told -/
def nilVb : List Value → Nat → Value := fun _ _ => nilV
theorem OKb : CtxOK Try.prog (ctx (lxΦ numF brW (lwG brW) lwG8 (lwG9 9 nilVb) nilVb (lwG9 15 nilVb) nilVb lxG sameV)) := lxΦ_ok brW nilVb nilVb
abbrev GO (l : List Code) (F : Fr) (H : Heap) (e : Exit) (F' : Fr) (H' : Heap) : Prop := GoOK Try.prog 0 0 124 l F H e F' H'
def brV (L : List Item) : Value := sliV 0 L.length 6
def brH (L : List Item) : Heap := match L with
  | [] => []
  | x :: r => [some ⟨itemsC (x :: r), 37, none⟩]
theorem brH_cons {L : List Item} (h : L ≠ []) : brH L = [some ⟨itemsC L, 37, none⟩] := by
  cases L with
  | nil => exact absurd rfl h
  | cons x r => rfl
theorem br_pick {l : List Code} {F : Fr} {H H1 : Heap} {n a k : Int} {j : Bool} {i m : Nat} {L : List Item} (h : GO l F H .normal (brF n a j (sl i (m + 1) 6) k) H1) (hi : H1[i]? = some (some ⟨itemsC L, 37, none⟩)) (hl : L.length = m + 1) : GO l F H .normal (brF n a j (brV L) k) (brH L) := by
  have hne : L ≠ [] := by intro e; rw [e] at hl; simp at hl
  rw [brH_cons hne]
  have e : brV L = sl 0 (m + 1) 6 := by unfold brV; rw [hl]; rfl
  rw [e]
  refine GoOK.one h i hi rfl (itemsC_gh L) (fun x hx => ?_)
  simp only [brF, List.mem_cons, List.not_mem_nil, or_false] at hx
  rcases hx with rfl | rfl | rfl | rfl | rfl | rfl
  · exact .inl ⟨rfl, gh_int _ _⟩
  · exact .inl ⟨rfl, gh_int _ _⟩
  · exact .inl ⟨rfl, Gh.plain rfl⟩
  · exact .inl ⟨rfl, Gh.plain rfl⟩
  · exact .inr ⟨_, 6, by omega, rfl, rfl⟩
  · exact .inl ⟨rfl, gh_int _ _⟩
theorem br_more {L : List Item} {m : Nat} (h : L.length = m) (hm : m ≤ 1000) : moreG (itemsC L).length m 6 20 = true := moreG_eq (by rw [itemsC, flat_len itemC_len, h]) (by omega) (by omega)
theorem br_items (L : List Item) (x : Item) : itemsC (L ++ [x]) = itemsC L ++ itemC x := by simp [itemsC]
theorem br_A (n : Int) (a : Nat) (j : Bool) (K : Nat) (L : List Item) (hL : L.length ≤ 900) : GO (brI.take 2) (brF n (Int.ofNat a) j (brV L) (Int.ofNat K)) (brH L) .normal (brF n (Int.ofNat a) j (brV (L ++ if K = a then [mkI (bcW j)] else [])) (Int.ofNat K)) (brH (L ++ if K = a then [mkI (bcW j)] else [])) := by
  have g5 : lwG brW 5 0 1 2 8 = true := brG_of w_Beq_0_1_2_8 (by decide)
  have g4 : lwG brW 4 0 1 0 0 = true := brG_of w_Jalr_0_1_0_0 (by decide)
  have w5 : brW 5 0 1 2 8 = bcW false := by decide
  have w4 : brW 4 0 1 0 0 = bcW true := by decide
  cases hLc : L with
  | nil =>
    have h := br_A0 numF brW (lwG brW) lwG8 (lwG9 9 nilVb) nilVb (lwG9 15 nilVb) nilVb lxG sameV n (Int.ofNat a) j K
    rw [g5, g4, w5, w4] at h
    by_cases hk : K = a
    · rw [if_pos hk]
      rw [show (Int.ofNat K == Int.ofNat a) = true by rw [hk]; simp] at h
      have h' : brRun numF brW (lwG brW) lwG8 (lwG9 9 nilVb) nilVb (lwG9 15 nilVb) nilVb lxG sameV (brI.take 2) (brF n (Int.ofNat a) j nilV (Int.ofNat K)) [] [0, 1, 2, 7, 8, 9] = some (.normal, (brF n (Int.ofNat a) j (sl 1 1 6) (Int.ofNat K)).map (fun e => some e.2), [some ⟨itemC (mkI (bcW j)), 37, none⟩, some ⟨itemC (mkI (bcW j)), 37, none⟩]) := by
        rw [h]; cases j <;> rfl
      exact br_pick (L := [mkI (bcW j)]) (m := 0) (i := 1) (RowOK.go (RowOK.of_seeA OKb (m := 20) (j := 20) (f := 5) (p := keeps 5) (ts := [0, 1, 2, 7, 8, 9]) rfl (br_drA _ _ _ _ _ _ _ _ _ _) h')) (by simp [itemsC]) rfl
    · rw [if_neg hk]
      rw [show (Int.ofNat K == Int.ofNat a) = false from beq_eq_false_iff_ne.2 (fun e => hk (Int.ofNat.inj e)), cond_false] at h
      exact RowOK.go (RowOK.of_seeA OKb (m := 20) (j := 20) (f := 5) (p := keeps 5) (ts := [0, 1, 2, 7, 8, 9]) rfl (br_drA _ _ _ _ _ _ _ _ _ _) h)
  | cons x r =>
    have hlen : L.length = r.length + 1 := by rw [hLc]; rfl
    rw [← hLc]
    have eV : brV L = sl 0 (r.length + 1) 6 := by unfold brV; rw [hlen]; rfl
    have eH : brH L = [some ⟨itemsC L, 37, none⟩] := brH_cons (by rw [hLc]; simp)
    have h := br_A1 numF brW (lwG brW) lwG8 (lwG9 9 nilVb) nilVb (lwG9 15 nilVb) nilVb lxG sameV n (Int.ofNat a) j K r.length (itemsC L)
    rw [g5, g4, w5, w4, br_more hlen (by omega)] at h
    simp only [cond_true] at h
    by_cases hk : K = a
    · rw [if_pos hk, eV, eH]
      rw [show (Int.ofNat K == Int.ofNat a) = true by rw [hk]; simp] at h
      have h' : brRun numF brW (lwG brW) lwG8 (lwG9 9 nilVb) nilVb (lwG9 15 nilVb) nilVb lxG sameV (brI.take 2) (brF n (Int.ofNat a) j (sl 0 (r.length + 1) 6) (Int.ofNat K)) [some ⟨itemsC L, 37, none⟩] [0, 1, 2, 7, 8, 9] = some (.normal, (brF n (Int.ofNat a) j (sl 2 (r.length + 1 + 1) 6) (Int.ofNat K)).map (fun e => some e.2), [none, some ⟨itemC (mkI (bcW j)), 37, none⟩, some ⟨itemsC L ++ itemC (mkI (bcW j)), 37, none⟩]) := by
        rw [h]; cases j <;> rfl
      refine br_pick (L := L ++ [mkI (bcW j)]) (m := r.length + 1) (i := 2) (RowOK.go (RowOK.of_seeA OKb (m := 20) (j := 20) (f := 5) (p := keeps 5) (ts := [0, 1, 2, 7, 8, 9]) rfl (br_drA _ _ _ _ _ _ _ _ _ _) h')) (by rw [br_items]; rfl) (by simp [hlen])
    · rw [if_neg hk, List.append_nil, eV, eH]
      rw [show (Int.ofNat K == Int.ofNat a) = false from beq_eq_false_iff_ne.2 (fun e => hk (Int.ofNat.inj e)), cond_false] at h
      exact RowOK.go (RowOK.of_seeA OKb (m := 20) (j := 20) (f := 5) (p := keeps 5) (ts := [0, 1, 2, 7, 8, 9]) rfl (br_drA _ _ _ _ _ _ _ _ _ _) h)
theorem par_eq (K : Nat) : par K = Int.ofNat (K % 2) := rfl
theorem brLd_eq (K : Nat) (leaf : Int → Res) : brLd brW (lwG brW) K leaf = leaf (ldW K) := by
  have e0 : w64 (1 + 0) = 1 := by decide
  have e1 : w64 (1 + 1) = 2 := by decide
  have g1 : lwG brW 13 1 5 0 0 = true := brG_of w_Lw_1_5_0_0 (by decide)
  have g2 : lwG brW 13 2 5 0 0 = true := brG_of w_Lw_2_5_0_0 (by decide)
  have w1 : brW 13 1 5 0 0 = 172163 := by decide
  have w2 : brW 13 2 5 0 0 = 172291 := by decide
  unfold brLd ldW
  rw [e0, e1, g1, g2, w1, w2, par_eq]
  by_cases h : K % 2 = 0
  · rw [if_pos h, h]; rfl
  · rw [if_neg h, show K % 2 = 1 by omega]; rfl
theorem br_B (n : Int) (a : Nat) (j : Bool) (K : Nat) (L : List Item) (hL : L.length ≤ 900) : GO (brI.drop 2) (brF n (Int.ofNat a) j (brV L) (Int.ofNat K)) (brH L) .normal (brF n (Int.ofNat a) j (brV (L ++ [mkI (ldW K)])) (Int.ofNat K)) (brH (L ++ [mkI (ldW K)])) := by
  cases hLc : L with
  | nil =>
    have h := br_B0 numF brW (lwG brW) lwG8 (lwG9 9 nilVb) nilVb (lwG9 15 nilVb) nilVb lxG sameV n (Int.ofNat a) j K
    rw [brLd_eq] at h
    exact br_pick (L := [mkI (ldW K)]) (m := 0) (i := 1) (RowOK.go (RowOK.of_seeA OKb (m := 20) (j := 20) (f := 5) (p := keeps 5) (ts := [0, 1, 2, 7, 8, 9]) rfl (br_drB _ _ _ _ _ _ _ _ _ _) h)) (by simp [itemsC]) rfl
  | cons x r =>
    have hlen : L.length = r.length + 1 := by rw [hLc]; rfl
    rw [← hLc]
    have eV : brV L = sl 0 (r.length + 1) 6 := by unfold brV; rw [hlen]; rfl
    have eH : brH L = [some ⟨itemsC L, 37, none⟩] := brH_cons (by rw [hLc]; simp)
    have h := br_B1 numF brW (lwG brW) lwG8 (lwG9 9 nilVb) nilVb (lwG9 15 nilVb) nilVb lxG sameV n (Int.ofNat a) j K r.length (itemsC L)
    rw [brLd_eq, br_more hlen (by omega), cond_true] at h
    rw [eV, eH]
    exact br_pick (L := L ++ [mkI (ldW K)]) (m := r.length + 1) (i := 2) (RowOK.go (RowOK.of_seeA OKb (m := 20) (j := 20) (f := 5) (p := keeps 5) (ts := [0, 1, 2, 7, 8, 9]) rfl (br_drB _ _ _ _ _ _ _ _ _ _) h)) (by rw [br_items]; rfl) (by simp [hlen])
def brFk (n a : Nat) (j : Bool) (k : Nat) : Fr := brF (Int.ofNat n) (Int.ofNat a) j (brV (brL a j k)) (Int.ofNat k)
theorem br_round (n a : Nat) (j : Bool) (hn : n ≤ 20) (k : Nat) (hk : k < n) : GcOK Try.prog 0 0 124 (brB 8) (brFk n a j k) (brH (brL a j k)) .normal (brFk n a j (k + 1)) (brH (brL a j (k + 1))) := by
  have ll := brL_len a j k
  have h8 := br_R8 numF brW (lwG brW) lwG8 (lwG9 9 nilVb) nilVb (lwG9 15 nilVb) nilVb lxG sameV (Int.ofNat n) (Int.ofNat a) j (brV (brL a j k)) k (brH (brL a j k))
  rw [decide_eq_true (show Int.ofNat k < Int.ofNat n by simp; omega), cond_true] at h8
  have r8 : GO ((flat (brB 8)).take 2) (brFk n a j k) (brH (brL a j k)) .normal (brFk n a j k) (brH (brL a j k)) := RowOK.go (RowOK.of_seeA OKb (m := 20) (j := 20) (f := 5) (p := keeps 5) (ts := [0, 1, 2, 7, 8, 9]) rfl (br_dr8 _ _ _ _ _ _ _ _ _ _) h8)
  have rA := br_A (Int.ofNat n) a j k (brL a j k) (by omega)
  have rB := br_B (Int.ofNat n) a j k (brL a j k ++ if k = a then [mkI (bcW j)] else []) (by rw [List.length_append]; split <;> simp <;> omega)
  have rI : GO [.block 1 brIn] (brFk n a j k) (brH (brL a j k)) .normal (brF (Int.ofNat n) (Int.ofNat a) j (brV (brL a j (k + 1))) (Int.ofNat k)) (brH (brL a j (k + 1))) := by
    have := rA.app rB
    rw [List.take_append_drop] at this
    exact (GcOK.block (id := 1) (GoOK.code this)).row
  have h9 := br_R9 numF brW (lwG brW) lwG8 (lwG9 9 nilVb) nilVb (lwG9 15 nilVb) nilVb lxG sameV (Int.ofNat n) (Int.ofNat a) j (brV (brL a j (k + 1))) k (brH (brL a j (k + 1)))
  rw [show w64 (Int.ofNat k + 1) = Int.ofNat (k + 1) from w64_of (by simp; omega) (by simp; omega)] at h9
  have r9 : GO ((flat (brB 8)).drop 3) (brF (Int.ofNat n) (Int.ofNat a) j (brV (brL a j (k + 1))) (Int.ofNat k)) (brH (brL a j (k + 1))) .normal (brFk n a j (k + 1)) (brH (brL a j (k + 1))) := RowOK.go (RowOK.of_seeA OKb (m := 20) (j := 20) (f := 5) (p := keeps 5) (ts := [0, 1, 2, 7, 8, 9]) rfl (br_dr9 _ _ _ _ _ _ _ _ _ _) h9)
  have all := r8.app (rI.app r9)
  rw [← br_in] at all
  exact GoOK.code all
theorem br_hend (n a : Nat) (j : Bool) : GcOK Try.prog 0 0 124 (brB 8) (brFk n a j n) (brH (brL a j n)) (.exit 0) (brFk n a j n) (brH (brL a j n)) := by
  have h8 := br_R8 numF brW (lwG brW) lwG8 (lwG9 9 nilVb) nilVb (lwG9 15 nilVb) nilVb lxG sameV (Int.ofNat n) (Int.ofNat a) j (brV (brL a j n)) n (brH (brL a j n))
  rw [decide_eq_false (show ¬ Int.ofNat n < Int.ofNat n by simp), cond_false] at h8
  have r8 : GO ((flat (brB 8)).take 2) (brFk n a j n) (brH (brL a j n)) (.exit 0) (brFk n a j n) (brH (brL a j n)) := RowOK.go (RowOK.of_seeA OKb (m := 20) (j := 20) (f := 5) (p := keeps 5) (ts := [0, 1, 2, 7, 8, 9]) rfl (br_dr8 _ _ _ _ _ _ _ _ _ _) h8)
  have all := r8.left (by intro h; cases h) ([.block 1 brIn] ++ (flat (brB 8)).drop 3)
  rw [← br_in] at all
  exact GoOK.code all
theorem br_loop1 (n a : Nat) (j : Bool) (hn : n ≤ 20) : GO [.block 0 (.loop (brB 8))] (brFk n a j 0) (brH (brL a j 0)) .normal (brE (Int.ofNat n) (Int.ofNat a) j (gs 6 (itemsC (brL a j n)) (brL a j n).length)) [] := by
  have lp := (GcOK.block (id := 0) (GcOK.loop (P := Try.prog) (lo := 0) (base := 0) (n := 124) (c := brB 8) (brFk n a j) (fun k => brH (brL a j k)) n (e := .exit 0) (by intro h; cases h) (br_round n a j hn) (br_hend n a j))).row
  refine GoOK.freeze lp (fun e he => ?_)
  simp only [brE, List.mem_cons, List.not_mem_nil, or_false] at he
  rcases he with rfl | rfl | rfl | rfl | rfl
  · exact ⟨_, rfl, .inl ⟨rfl, gh_int _ _⟩⟩
  · exact ⟨_, rfl, .inl ⟨rfl, gh_int _ _⟩⟩
  · exact ⟨_, rfl, .inl ⟨rfl, Gh.plain rfl⟩⟩
  · exact ⟨_, rfl, .inl ⟨rfl, Gh.plain rfl⟩⟩
  · refine ⟨brV (brL a j n), rfl, ?_⟩
    cases hL : brL a j n with
    | nil => exact .inr (.inr ⟨6, rfl, rfl⟩)
    | cons x r =>
      have lcl : (itemsC (x :: r)).length = (r.length + 1) * 6 := by rw [itemsC, flat_len itemC_len]; rfl
      refine .inr (.inl ⟨0, r.length + 1, 6, itemsC (x :: r), 37, by omega, rfl, rfl, by rw [lcl]; exact Nat.le_refl _, itemsC_gh _, ?_⟩)
      rw [List.take_of_length_le (by rw [lcl]; exact Nat.le_refl _)]; rfl
/-! ### What is wanted -/
theorem want_succ (a : Nat) (j : Bool) (k : Nat) : wantL a j (k + 1) = wantL a j k ++ (if wantB a j k then [Int.ofNat k] else []) := by
  unfold wantL
  rw [List.range_succ, List.filter_append, List.map_append]
  congr 1
  by_cases h : wantB a j k = true <;> simp [h]
theorem want_len (a : Nat) (j : Bool) (k : Nat) : (wantL a j k).length ≤ k := by
  unfold wantL
  rw [List.length_map]
  exact Nat.le_trans (List.length_filter_le _ _) (by simp)
theorem brWt_eq (a : Nat) (j : Bool) (K : Nat) (hK : K ≤ 1000) (app keep : Res) : brWt (Int.ofNat a) j K app keep = if wantB a j K then app else keep := by
  have ew : w64 (Int.ofNat K + 2) = Int.ofNat (K + 2) := w64_of (by simp; omega) (by simp; omega)
  have ed : decide (Int.ofNat a ≤ Int.ofNat (K + 2)) = decide (a ≤ K + 2) := by
    by_cases h : a ≤ K + 2
    · rw [decide_eq_true h, decide_eq_true (by simp; omega)]
    · rw [decide_eq_false h, decide_eq_false (by simp; omega)]
  unfold brWt wantB
  rw [ew, ed, par_eq]
  by_cases h : K % 2 = 0
  · rw [h]
    cases decide (a ≤ K + 2) <;> cases j <;> rfl
  · rw [show K % 2 = 1 by omega]
    cases decide (a ≤ K + 2) <;> cases j <;> rfl
def wnH (ws : List Int) : Heap := match ws with
  | [] => []
  | x :: r => [some ⟨(x :: r).map (Value.int .i64), 3, none⟩]
theorem wnH_cons {ws : List Int} (h : ws ≠ []) : wnH ws = [some ⟨ws.map (Value.int .i64), 3, none⟩] := by
  cases ws with
  | nil => exact absurd rfl h
  | cons x r => rfl
def wnFk (n a : Nat) (j : Bool) (o : Value) (k : Nat) : Fr := brO (Int.ofNat n) (Int.ofNat a) j o (sliV 0 (wantL a j k).length 1) (Int.ofNat k)
theorem wn_round (n a : Nat) (j : Bool) (o : Value) (ho : Gh o) (ha : a ≤ 20) (k : Nat) (hk : k < a) : GcOK Try.prog 0 0 124 (brB 14) (wnFk n a j o k) (wnH (wantL a j k)) .normal (wnFk n a j o (k + 1)) (wnH (wantL a j (k + 1))) := by
  have hd : decide (Int.ofNat k < Int.ofNat a) = true := decide_eq_true (by simp; omega)
  have ew : w64 (Int.ofNat k + 1) = Int.ofNat (k + 1) := w64_of (by simp; omega) (by simp; omega)
  have wl := want_len a j k
  have slots : ∀ (i m : Nat) (kk : Int), ∀ x ∈ brO (Int.ofNat n) (Int.ofNat a) j o (sl 0 m 1) kk, ((brO (Int.ofNat n) (Int.ofNat a) j o (sl i m 1) kk).get x.1 = some x.2 ∧ Gh x.2) ∨ ∃ m' z, 0 < z ∧ (brO (Int.ofNat n) (Int.ofNat a) j o (sl i m 1) kk).get x.1 = some (.slice (some ⟨i, 0, none⟩) m' z) ∧ x.2 = .slice (some ⟨0, 0, none⟩) m' z := fun i m kk x hx => by
    simp only [brO, List.mem_cons, List.not_mem_nil, or_false] at hx
    rcases hx with rfl | rfl | rfl | rfl | rfl | rfl
    · exact .inl ⟨rfl, gh_int _ _⟩
    · exact .inl ⟨rfl, gh_int _ _⟩
    · exact .inl ⟨rfl, Gh.plain rfl⟩
    · exact .inl ⟨rfl, ho⟩
    · exact .inr ⟨_, 1, by omega, rfl, rfl⟩
    · exact .inl ⟨rfl, gh_int _ _⟩
  cases hw : wantL a j k with
  | nil =>
    have eF : wnFk n a j o k = brO (Int.ofNat n) (Int.ofNat a) j o nilV (Int.ofNat k) := by unfold wnFk; rw [hw]; rfl
    have h := br_want0 numF brW (lwG brW) lwG8 (lwG9 9 nilVb) nilVb (lwG9 15 nilVb) nilVb lxG sameV (Int.ofNat n) (Int.ofNat a) j o k
    rw [hd, cond_true, brWt_eq a j k (by omega), ew] at h
    rw [eF]
    by_cases hb : wantB a j k = true
    · rw [if_pos hb] at h
      have e1 : wantL a j (k + 1) = [Int.ofNat k] := by rw [want_succ, hw, if_pos hb]; rfl
      have r := RowOK.go (base := 0) (RowOK.of_seeA OKb (m := 20) (j := 20) (f := 5) (p := keeps 5) (ts := [0, 1, 2, 11, 12, 13]) rfl (br_dr4 _ _ _ _ _ _ _ _ _ _) h)
      have p := GoOK.one (F2 := brO (Int.ofNat n) (Int.ofNat a) j o (sl 0 1 1) (Int.ofNat (k + 1))) r 1 rfl rfl (fun v hv => by simp at hv; subst hv; exact gh_int _ _) (slots 1 1 _)
      unfold wnFk
      rw [e1]
      exact GoOK.code p
    · rw [if_neg hb] at h
      have e1 : wantL a j (k + 1) = [] := by rw [want_succ, hw, if_neg hb]; rfl
      unfold wnFk
      rw [e1]
      exact GoOK.code (RowOK.go (RowOK.of_seeA OKb (m := 20) (j := 20) (f := 5) (p := keeps 5) (ts := [0, 1, 2, 11, 12, 13]) rfl (br_dr4 _ _ _ _ _ _ _ _ _ _) h))
  | cons x r =>
    have hlen : (wantL a j k).length = r.length + 1 := by rw [hw]; rfl
    have eF : wnFk n a j o k = brO (Int.ofNat n) (Int.ofNat a) j o (sl 0 (r.length + 1) 1) (Int.ofNat k) := by unfold wnFk; rw [hlen]; rfl
    have eH : wnH (x :: r) = [some ⟨(wantL a j k).map (Value.int .i64), 3, none⟩] := by rw [hw]; rfl
    have h := br_want1 numF brW (lwG brW) lwG8 (lwG9 9 nilVb) nilVb (lwG9 15 nilVb) nilVb lxG sameV (Int.ofNat n) (Int.ofNat a) j o k r.length ((wantL a j k).map (Value.int .i64))
    rw [hd, cond_true, brWt_eq a j k (by omega), ew, moreG_eq (by rw [List.length_map, hlen]; omega) (by omega) (by omega), cond_true] at h
    rw [eF, eH]
    by_cases hb : wantB a j k = true
    · rw [if_pos hb] at h
      have e1 : wantL a j (k + 1) = wantL a j k ++ [Int.ofNat k] := by rw [want_succ, if_pos hb]
      have r' := RowOK.go (base := 0) (RowOK.of_seeA OKb (m := 20) (j := 20) (f := 5) (p := keeps 5) (ts := [0, 1, 2, 11, 12, 13]) rfl (br_dr4 _ _ _ _ _ _ _ _ _ _) h)
      have p := GoOK.one (F2 := brO (Int.ofNat n) (Int.ofNat a) j o (sl 0 (r.length + 1 + 1) 1) (Int.ofNat (k + 1))) r' 2 rfl rfl (fun v hv => by
        rcases List.mem_append.1 hv with hh | hh
        · exact ints_gh _ v hh
        · simp at hh; subst hh; exact gh_int _ _) (slots 2 (r.length + 1 + 1) _)
      unfold wnFk
      rw [wnH_cons (by rw [e1]; simp), e1, List.length_append, hlen, List.map_append]
      exact GoOK.code p
    · rw [if_neg hb] at h
      have e1 : wantL a j (k + 1) = wantL a j k := by rw [want_succ, if_neg hb, List.append_nil]
      unfold wnFk
      rw [wnH_cons (by rw [e1, hw]; simp), e1, hlen]
      exact GoOK.code (RowOK.go (RowOK.of_seeA OKb (m := 20) (j := 20) (f := 5) (p := keeps 5) (ts := [0, 1, 2, 11, 12, 13]) rfl (br_dr4 _ _ _ _ _ _ _ _ _ _) h))
theorem wn_hend (n a : Nat) (j : Bool) (o : Value) (ho : Gh o) (ha : a ≤ 20) : GcOK Try.prog 0 0 124 (brB 14) (wnFk n a j o a) (wnH (wantL a j a)) (.exit 2) (wnFk n a j o a) (wnH (wantL a j a)) := by
  have hd : decide (Int.ofNat a < Int.ofNat a) = false := decide_eq_false (by simp)
  cases hw : wantL a j a with
  | nil =>
    have eF : wnFk n a j o a = brO (Int.ofNat n) (Int.ofNat a) j o nilV (Int.ofNat a) := by unfold wnFk; rw [hw]; rfl
    have h := br_want0 numF brW (lwG brW) lwG8 (lwG9 9 nilVb) nilVb (lwG9 15 nilVb) nilVb lxG sameV (Int.ofNat n) (Int.ofNat a) j o a
    rw [hd, cond_false] at h
    rw [eF]
    exact GoOK.code (RowOK.go (RowOK.of_seeA OKb (m := 20) (j := 20) (f := 5) (p := keeps 5) (ts := [0, 1, 2, 11, 12, 13]) rfl (br_dr4 _ _ _ _ _ _ _ _ _ _) h))
  | cons x r =>
    have hlen : (wantL a j a).length = r.length + 1 := by rw [hw]; rfl
    have eF : wnFk n a j o a = brO (Int.ofNat n) (Int.ofNat a) j o (sl 0 (r.length + 1) 1) (Int.ofNat a) := by unfold wnFk; rw [hlen]; rfl
    have h := br_want1 numF brW (lwG brW) lwG8 (lwG9 9 nilVb) nilVb (lwG9 15 nilVb) nilVb lxG sameV (Int.ofNat n) (Int.ofNat a) j o a r.length ((x :: r).map (Value.int .i64))
    rw [hd, cond_false] at h
    rw [eF]
    exact GoOK.code (RowOK.go (RowOK.of_seeA OKb (m := 20) (j := 20) (f := 5) (p := keeps 5) (ts := [0, 1, 2, 11, 12, 13]) rfl (br_dr4 _ _ _ _ _ _ _ _ _ _) h))
theorem wn_loop (n a : Nat) (j : Bool) (o : Value) (ho : Gh o) (ha : a ≤ 20) : GO [.block 2 (.loop (brB 14))] (brO (Int.ofNat n) (Int.ofNat a) j o nilV 0) [] .normal (brD (Int.ofNat n) (Int.ofNat a) o (L1 (wantL a j a))) [] := by
  have lp := (GcOK.block (id := 2) (GcOK.loop (P := Try.prog) (lo := 0) (base := 0) (n := 124) (c := brB 14) (wnFk n a j o) (fun k => wnH (wantL a j k)) a (e := .exit 2) (by intro h; cases h) (wn_round n a j o ho ha) (wn_hend n a j o ho ha))).row
  refine GoOK.freeze lp (fun e he => ?_)
  simp only [brD, List.mem_cons, List.not_mem_nil, or_false] at he
  rcases he with rfl | rfl | rfl | rfl
  · exact ⟨_, rfl, .inl ⟨rfl, gh_int _ _⟩⟩
  · exact ⟨_, rfl, .inl ⟨rfl, gh_int _ _⟩⟩
  · exact ⟨_, rfl, .inl ⟨rfl, ho⟩⟩
  · refine ⟨sliV 0 (wantL a j a).length 1, rfl, ?_⟩
    cases hw : wantL a j a with
    | nil => exact .inr (.inr ⟨1, rfl, rfl⟩)
    | cons x r =>
      refine .inr (.inl ⟨0, r.length + 1, 1, (x :: r).map (Value.int .i64), 3, by omega, rfl, rfl, by simp, ints_gh _, ?_⟩)
      rw [List.take_of_length_le (by simp)]; rfl
/-! ### Looked at -/
theorem opsC_at {ops : List OpR} {k : Nat} {r : OpR} (h : ops[k]? = some r) : ctV (opsC ops) k = L1 r.ctrl ∧ ∀ z : Res, ctG (opsC ops) ops.length k z = z := by
  have hk : k < ops.length := (List.getElem?_eq_some_iff.1 h).1
  have hr : ops[k] = r := (List.getElem?_eq_some_iff.1 h).2
  have e : (opsC ops).drop (k * 13) = r.cells ++ opsC (ops.drop (k + 1)) := by
    unfold opsC
    rw [flat_drop (f := OpR.cells) (fun x => rfl), List.drop_eq_getElem_cons hk, hr, List.flatMap_cons]
  have e12 : List.drop 12 (r.cells ++ opsC (ops.drop (k + 1))) = L1 r.ctrl :: opsC (ops.drop (k + 1)) := rfl
  refine ⟨by unfold ctV; rw [e, e12]; rfl, fun z => ?_⟩
  unfold ctG
  rw [e, e12, decide_eq_true (show Int.ofNat k < Int.ofNat ops.length by simp; omega)]
  have b1 : Nat.ble 12 (r.cells ++ opsC (ops.drop (k + 1))).length = true := Nat.ble_eq_true_of_le (by rw [List.length_append]; show 12 ≤ 13 + _; omega)
  rw [b1]; rfl
theorem see_round (n a : Nat) (j : Bool) (hn : n ≤ 20) (ops : List OpR) (hl : ops.length = n) (hat : ∀ i r, ops[i]? = some r → r.ctrl = if i < a then [] else wantL a j a) (ha : a ≤ 20) (k : Nat) (hk : k < n) :
    GcOK Try.prog 0 0 124 (brB 16) (brC (Int.ofNat n) (Int.ofNat a) (gs 13 (opsC ops) n) (L1 (wantL a j a)) (Int.ofNat k)) [] .normal (brC (Int.ofNat n) (Int.ofNat a) (gs 13 (opsC ops) n) (L1 (wantL a j a)) (Int.ofNat (k + 1))) [] := by
  have hx : ops[k]? = some ops[k] := List.getElem?_eq_getElem (by omega)
  obtain ⟨c1, c2⟩ := opsC_at hx
  have hc := hat k _ hx
  rw [hl] at c2
  have h := br_see numF brW (lwG brW) lwG8 (lwG9 9 nilVb) nilVb (lwG9 15 nilVb) nilVb lxG sameV (Int.ofNat n) (Int.ofNat a) (opsC ops) n k (wantL a j a)
  have ew : w64 (Int.ofNat k + 1) = Int.ofNat (k + 1) := w64_of (by simp; omega) (by simp; omega)
  rw [decide_eq_true (show Int.ofNat k < Int.ofNat n by simp; omega), cond_true, c2, c2, c1, ew] at h
  have wl := want_len a j a
  refine GoOK.code (RowOK.go (RowOK.of_seeA OKb (m := 20) (j := 20) (f := 5) (p := keeps 5) (ts := [0, 1, 11, 12, 14]) rfl (br_dr6 _ _ _ _ _ _ _ _ _ _) (h.trans ?_)))
  by_cases hka : k < a
  · rw [if_pos hka] at hc
    rw [decide_eq_true (show Int.ofNat k < Int.ofNat a by simp; omega), decide_eq_false (show ¬ Int.ofNat a ≤ Int.ofNat k by simp; omega), hc]; rfl
  · rw [if_neg hka] at hc
    have s1 : sameV (L1 (wantL a j a)) (L1 (wantL a j a)) = true := decide_eq_true rfl
    rw [decide_eq_false (show ¬ Int.ofNat k < Int.ofNat a by simp; omega), decide_eq_true (show Int.ofNat a ≤ Int.ofNat k by simp; omega), hc, lxG_of (by omega), s1]; rfl
theorem see_hend (n a : Nat) (j : Bool) (ops : List OpR) : GcOK Try.prog 0 0 124 (brB 16) (brC (Int.ofNat n) (Int.ofNat a) (gs 13 (opsC ops) n) (L1 (wantL a j a)) (Int.ofNat n)) [] (.exit 4) (brC (Int.ofNat n) (Int.ofNat a) (gs 13 (opsC ops) n) (L1 (wantL a j a)) (Int.ofNat n)) [] := by
  have h := br_see numF brW (lwG brW) lwG8 (lwG9 9 nilVb) nilVb (lwG9 15 nilVb) nilVb lxG sameV (Int.ofNat n) (Int.ofNat a) (opsC ops) n n (wantL a j a)
  rw [decide_eq_false (show ¬ Int.ofNat n < Int.ofNat n by simp), cond_false] at h
  exact GoOK.code (RowOK.go (RowOK.of_seeA OKb (m := 20) (j := 20) (f := 5) (p := keeps 5) (ts := [0, 1, 11, 12, 14]) rfl (br_dr6 _ _ _ _ _ _ _ _ _ _) h))
theorem br_pure (n0 a0 : Int) (j : Bool) : PureOK Try.prog 5 [.int .i64 n0, .int .i64 a0, .bool j] (.bool true) := by
  obtain ⟨fn, f1, f2, f3, f4⟩ := fnOf fn5
  obtain ⟨n1, n2⟩ := num_lt n0 20 (by omega) (by omega)
  obtain ⟨n, hn, hn1, hn20⟩ : ∃ n : Nat, w64 (numF n0 20 + 1) = Int.ofNat n ∧ 1 ≤ n ∧ n ≤ 20 := ⟨(numF n0 20 + 1).toNat, by rw [w64_of (by omega) (by omega)]; simp; omega, by omega, by omega⟩
  have hw2 : w64 (Int.ofNat n + 1) = Int.ofNat (n + 1) := w64_of (by simp; omega) (by simp; omega)
  obtain ⟨a1, a2⟩ := num_lt a0 (Int.ofNat (n + 1)) (by simp; omega) (by simp; omega)
  obtain ⟨a, ha, han⟩ : ∃ a : Nat, numF a0 (Int.ofNat (n + 1)) = Int.ofNat a ∧ a ≤ n := by
    generalize numF a0 (Int.ofNat (n + 1)) = y at a1 a2
    have a3 : y < (n : Int) + 1 := a2
    exact ⟨y.toNat, by show y = (y.toNat : Int); omega, by omega⟩
  have ha20 : a ≤ 20 := by omega
  have hd : GO (brP 0 8) (enterF 0 [.int .i64 n0, .int .i64 a0, .bool j]) [] .normal (brFk n a j 0) (brH (brL a j 0)) := by
    have h := br_head numF brW (lwG brW) lwG8 (lwG9 9 nilVb) nilVb (lwG9 15 nilVb) nilVb lxG sameV n0 a0 j
    rw [hn, hw2, ha, show lwG8 n0 20 = true from rfl, show lwG8 a0 (Int.ofNat (n + 1)) = true from decide_eq_true (by simp; omega), cond_true, cond_true] at h
    exact RowOK.go (RowOK.of_seeA OKb (m := 20) (j := 20) (f := 5) (p := keeps 5) (ts := [0, 1, 2, 7, 8, 9]) rfl (br_dr1 _ _ _ _ _ _ _ _ _ _) h)
  have st := br_state a j n
  have ol := opsOK (brL a j n) (by have := brL_len a j n; omega)
  rw [st.len] at ol
  have mid : GO (brP 9 5) (brE (Int.ofNat n) (Int.ofNat a) j (gs 6 (itemsC (brL a j n)) (brL a j n).length)) [] .normal (brO (Int.ofNat n) (Int.ofNat a) j (gs 13 (opsC (runF (brL a j n)).ops) n) nilV 0) [] := by
    have OK1 := lxΦ_ok brW (fun _ _ => gs 13 (opsC (runF (brL a j n)).ops) n) nilVb
    have run := br_mid (opsC (runF (brL a j n)).ops) n numF brW (lwG brW) lwG8 (lwG9 9 (fun _ _ => gs 13 (opsC (runF (brL a j n)).ops) n)) nilVb (lwG9 15 nilVb) nilVb lxG sameV (Int.ofNat n) (Int.ofNat a) j (itemsC (brL a j n)) (brL a j n).length
    have g9 : lwG9 9 (fun _ _ => gs 13 (opsC (runF (brL a j n)).ops) n) (itemsC (brL a j n)) (brL a j n).length = true := isPure_of ol (gs_gh1 _ _)
    rw [g9, show (Int.ofNat n != Int.ofNat n) = false by simp, cond_true, cond_false] at run
    unfold brMid at run
    exact RowOK.go (RowOK.of_seeA OK1 (m := 20) (j := 20) (f := 5) (p := keeps 5) (ts := [0, 1, 2, 11, 12, 13]) rfl (br_dr3 _ _ _ _ _ _ _ _ _ _) run)
  have hz : GO (brP 15 1) (brD (Int.ofNat n) (Int.ofNat a) (gs 13 (opsC (runF (brL a j n)).ops) n) (L1 (wantL a j a))) [] .normal (brC (Int.ofNat n) (Int.ofNat a) (gs 13 (opsC (runF (brL a j n)).ops) n) (L1 (wantL a j a)) (Int.ofNat 0)) [] :=
    RowOK.go (RowOK.of_seeA OKb (m := 20) (j := 20) (f := 5) (p := keeps 5) (ts := [0, 1, 11, 12, 14]) rfl (br_dr5 _ _ _ _ _ _ _ _ _ _) (br_zero _ _ _ _ _ _ _ _ _ _ _ _ _ _))
  have lp3 : GO [.block 4 (.loop (brB 16))] (brC (Int.ofNat n) (Int.ofNat a) (gs 13 (opsC (runF (brL a j n)).ops) n) (L1 (wantL a j a)) (Int.ofNat 0)) [] .normal (brC (Int.ofNat n) (Int.ofNat a) (gs 13 (opsC (runF (brL a j n)).ops) n) (L1 (wantL a j a)) (Int.ofNat n)) [] :=
    (GcOK.block (id := 4) (GcOK.loop (P := Try.prog) (lo := 0) (base := 0) (n := 124) (c := brB 16) (fun k => brC (Int.ofNat n) (Int.ofNat a) (gs 13 (opsC (runF (brL a j n)).ops) n) (L1 (wantL a j a)) (Int.ofNat k)) (fun _ => []) n (e := .exit 4) (by intro h; cases h) (see_round n a j hn20 _ st.len st.at_ ha20) (see_hend n a j _))).row
  have tl : GO (brP 17 2) (brC (Int.ofNat n) (Int.ofNat a) (gs 13 (opsC (runF (brL a j n)).ops) n) (L1 (wantL a j a)) (Int.ofNat n)) [] .ret [(6, .bool true)] [] :=
    RowOK.go (RowOK.of_seeA OKb (m := 20) (j := 20) (f := 5) (p := keeps 5) (ts := [6]) rfl (br_dr7 _ _ _ _ _ _ _ _ _ _) (br_tail _ _ _ _ _ _ _ _ _ _ _ _ _ _ _))
  have all := hd.app ((br_loop1 n a j hn20).app (mid.app ((wn_loop n a j _ (Gh.gs (opsC_gh _)) ha20).app (hz.app (lp3.app tl)))))
  rw [← br_flat] at all
  have hc := CallOK.of_go noOK (f := 5) (fn := fn) (c := bodyOf 5) (args := [.int .i64 n0, .int .i64 a0, .bool j]) (l := [.bool true]) (H := []) f1 f2 (by rw [f3]; simp) (by rw [f3]; exact GoOK.code all) (.inr rfl) (by rw [f4]; rfl)
  exact PureOK.of_call hc (Gh.plain rfl)
end Go.Proofs.Ytbcikaoklpekhaa.Ab
