/- Lists joined: rising, and what they hold. -/
import Derived.Test.YtbcikaoklpekhaaDepSt
namespace Go.Proofs.Ytbcikaoklpekhaa.Ab
open Go Go.RowKit Go.Lib
set_option linter.unusedVariables false
set_option linter.unusedSimpArgs false
theorem cut_rise (d : Array Int) (hs : ∀ i j, i ≤ j → j < d.size → d[i]! ≤ d[j]!) : ∀ m, m ≤ d.size →
    (compactUpTo d m).Pairwise (· < ·) ∧ (∀ x, x ∈ compactUpTo d m ↔ ∃ j, j < m ∧ d[j]! = x) := by
  intro m
  induction m with
  | zero => intro _; simp [compactUpTo]
  | succ m ih =>
    intro hm
    obtain ⟨h1, h2⟩ := ih (by omega)
    rw [compactUpTo_succ]
    by_cases hk : Go.Lib.keeps d m = true
    · rw [if_pos hk]
      refine ⟨List.pairwise_append.2 ⟨h1, List.pairwise_singleton _ _, fun a ha b hb => ?_⟩, fun x => ?_⟩
      · simp at hb; subst hb
        obtain ⟨j, hj, rfl⟩ := (h2 a).1 ha
        have a1 := hs j (m - 1) (by omega) (by omega)
        have a2 := hs (m - 1) m (by omega) (by omega)
        have a3 : d[m]! ≠ d[m - 1]! := by
          simp only [Go.Lib.keeps, decide_eq_true_eq] at hk
          rcases hk with h | h
          · omega
          · simpa using h
        omega
      · rw [List.mem_append, h2]
        simp only [List.mem_singleton]
        constructor
        · rintro (⟨j, hj, rfl⟩ | rfl)
          · exact ⟨j, by omega, rfl⟩
          · exact ⟨m, by omega, rfl⟩
        · rintro ⟨j, hj, rfl⟩
          by_cases hjm : j = m
          · subst hjm; exact .inr rfl
          · exact .inl ⟨j, by omega, rfl⟩
    · rw [if_neg hk, List.append_nil]
      refine ⟨h1, fun x => ?_⟩
      rw [h2]
      have hk' : m ≠ 0 ∧ d[m]! = d[m - 1]! := by
        simp only [Go.Lib.keeps, decide_eq_true_eq, not_or] at hk
        refine ⟨by omega, ?_⟩
        have := hk.2
        simpa using this
      constructor
      · rintro ⟨j, hj, rfl⟩; exact ⟨j, by omega, rfl⟩
      · rintro ⟨j, hj, rfl⟩
        by_cases hjm : j = m
        · subst hjm; exact ⟨j - 1, by omega, hk'.2.symm⟩
        · exact ⟨j, by omega, rfl⟩
theorem compact_rise (zs : List Int) (h : zs.Pairwise (· ≤ ·)) : (compact zs).Pairwise (· < ·) ∧ ∀ x, x ∈ compact zs ↔ x ∈ zs := by
  have key := cut_rise zs.toArray (fun i j hij hj => by
    simp only [List.size_toArray] at hj
    rcases Nat.eq_or_lt_of_le hij with rfl | hlt
    · exact Int.le_refl _
    · have := List.pairwise_iff_getElem.1 h i j (by omega) hj hlt
      rw [getElem!_pos zs.toArray i (by simp; omega), getElem!_pos zs.toArray j (by simpa using hj)]
      simpa using this) zs.length (by simp)
  refine ⟨key.1, fun x => ?_⟩
  unfold compact
  rw [key.2]
  constructor
  · rintro ⟨j, hj, rfl⟩
    rw [getElem!_pos zs.toArray j (by simpa using hj)]
    simp
  · intro hx
    obtain ⟨j, hj, rfl⟩ := List.mem_iff_getElem.1 hx
    exact ⟨j, hj, by rw [getElem!_pos zs.toArray j (by simpa using hj)]; simp⟩
theorem srt_le (xs : List Int) : (xs.mergeSort fun x y => decide (x ≤ y)).Pairwise (· ≤ ·) := by
  have := List.pairwise_mergeSort (le := fun x y : Int => decide (x ≤ y)) (fun a b c h1 h2 => by simp at *; omega) (fun a b => by simp; omega) xs
  exact this.imp (fun h => by simpa using h)
theorem jn_rise (xs : List Int) : (jn xs).Pairwise (· < ·) := (compact_rise _ (srt_le xs)).1
theorem jn_mem (xs : List Int) (x : Int) : x ∈ jn xs ↔ x ∈ xs := by
  unfold jn
  rw [(compact_rise _ (srt_le xs)).2]
  exact List.mem_mergeSort
/-- A rising list within a number holds no more. -/
theorem rise_len : ∀ (xs : List Int) (a n : Int), xs.Pairwise (· < ·) → (∀ x ∈ xs, a ≤ x ∧ x < n) → (xs.length : Int) ≤ max (n - a) 0
  | [], a, n, _, _ => by simp; omega
  | x :: xs, a, n, hp, hm => by
    have hx := hm x (List.mem_cons_self ..)
    have ih := rise_len xs (x + 1) n (List.pairwise_cons.1 hp).2 (fun y hy => ⟨by have := (List.pairwise_cons.1 hp).1 y hy; omega, (hm y (List.mem_cons_of_mem _ hy)).2⟩)
    simp only [List.length_cons, Int.natCast_add]
    omega
/-- Rising, and within so many. -/
def Asc (xs : List Int) (n : Nat) : Prop := xs.Pairwise (· < ·) ∧ ∀ x ∈ xs, 0 ≤ x ∧ x < Int.ofNat n
theorem Asc.len {xs : List Int} {n : Nat} (h : Asc xs n) : xs.length ≤ n := by
  have := rise_len xs 0 n h.1 h.2
  omega
theorem Asc.nil_ (n : Nat) : Asc [] n := ⟨.nil, fun x h => by cases h⟩
theorem Asc.mono {xs : List Int} {n m : Nat} (h : Asc xs n) (hm : n ≤ m) : Asc xs m := ⟨h.1, fun x hx => ⟨(h.2 x hx).1, by have := (h.2 x hx).2; simp at *; omega⟩⟩
theorem Asc.jn {xs : List Int} {n : Nat} (h : ∀ x ∈ xs, 0 ≤ x ∧ x < Int.ofNat n) : Asc (jn xs) n := ⟨jn_rise xs, fun x hx => h x ((jn_mem xs x).1 hx)⟩
/-- What holds of every state that is come to. -/
structure Inv (s : St) : Prop where
  R : ∀ i, Asc (s.R i) s.ops.length
  ctrl : Asc s.ctrl s.ops.length
  ops : s.ops.length ≤ s.ats.length
theorem Inv.nil_ : Inv St.nil := ⟨fun _ => Asc.nil_ _, Asc.nil_ _, Nat.le_refl _⟩
end Go.Proofs.Ytbcikaoklpekhaa.Ab
