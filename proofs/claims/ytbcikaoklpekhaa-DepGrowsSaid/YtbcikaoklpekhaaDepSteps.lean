/- What one more item makes of a state, instruction by instruction. -/
import Derived.Test.YtbcikaoklpekhaaDepHang
namespace Go.Proofs.Ytbcikaoklpekhaa.Ab
open Go Go.RowKit
set_option linter.unusedVariables false
set_option linter.unusedSimpArgs false
def mkI (w : Int) : Item := ⟨w, 0, 0, 0, false, false⟩
theorem itemF_inst {s : St} {x : Item} {i : Inst} (hd : dec x.word = (i, true)) (ht : x.trap = false) : itemF s x = instF s i x := by
  unfold itemF; rw [hd, ht]; rfl
theorem itemF_none {s : St} {x : Item} (h : x.trap = true ∨ (dec x.word).2 = false) : itemF s x = { s with ats := s.ats ++ [-1] } := by
  unfold itemF
  rcases h with h | h
  · rw [h]; rfl
  · rw [h]; cases x.trap <;> rfl
/-- Two rising lists that hold the same are the same. -/
theorem rise_ext : ∀ {a b : List Int}, a.Pairwise (· < ·) → b.Pairwise (· < ·) → (∀ x, x ∈ a ↔ x ∈ b) → a = b
  | [], [], _, _, _ => rfl
  | [], y :: b, _, _, h => absurd ((h y).2 (List.mem_cons_self ..)) (by simp)
  | x :: a, [], _, _, h => absurd ((h x).1 (List.mem_cons_self ..)) (by simp)
  | x :: a, y :: b, ha, hb, h => by
    obtain ⟨a1, a2⟩ := List.pairwise_cons.1 ha
    obtain ⟨b1, b2⟩ := List.pairwise_cons.1 hb
    have hxy : x = y := by
      rcases List.mem_cons.1 ((h x).1 (List.mem_cons_self ..)) with h1 | h1
      · exact h1
      · rcases List.mem_cons.1 ((h y).2 (List.mem_cons_self ..)) with h2 | h2
        · exact h2.symm
        · have := b1 x h1; have := a1 y h2; omega
    subst hxy
    rw [rise_ext a2 b2 fun z => ?_]
    have hz := h z
    simp only [List.mem_cons] at hz
    constructor
    · intro hm
      rcases hz.1 (.inr hm) with rfl | h1
      · have := a1 _ hm; omega
      · exact h1
    · intro hm
      rcases hz.2 (.inr hm) with rfl | h1
      · have := b1 _ hm; omega
      · exact h1
theorem jn_eq {xs ys : List Int} (hy : ys.Pairwise (· < ·)) (h : ∀ x, x ∈ xs ↔ x ∈ ys) : jn xs = ys :=
  rise_ext (jn_rise xs) hy fun x => (jn_mem xs x).trans (h x)
section
variable (s : St) (x : Item) (rd rs1 rs2 imm : Int) (hrd : (rd == 0) = false)
include hrd
theorem inst_lw : instF s ⟨13, rd, rs1, rs2, 0, imm, false, false⟩ x =
    ⟨upd s.R rd.toNat [Int.ofNat s.ops.length], s.ctrl, s.ops ++ [⟨(opF 13 imm false false x.pa x.load x.value x.done).1, s.R rs1.toNat, [], s.ctrl⟩], s.ats ++ [Int.ofNat s.ops.length]⟩ := by
  unfold instF; simp only [hrd]; rfl
theorem inst_add : instF s ⟨28, rd, rs1, rs2, 0, imm, false, false⟩ x =
    ⟨upd s.R rd.toNat (jn (s.R rs1.toNat ++ s.R rs2.toNat)), s.ctrl, s.ops, s.ats ++ [-1]⟩ := by
  unfold instF; simp only [hrd]; rfl
theorem inst_lui : instF s ⟨1, rd, rs1, rs2, 0, imm, false, false⟩ x =
    ⟨upd s.R rd.toNat [], s.ctrl, s.ops, s.ats ++ [-1]⟩ := by
  unfold instF; simp only [hrd]; rfl
theorem inst_swap : instF s ⟨61, rd, rs1, rs2, 0, imm, false, false⟩ x =
    ⟨upd s.R rd.toNat [Int.ofNat s.ops.length], s.ctrl, s.ops ++ [⟨(opF 61 imm false false x.pa x.load x.value x.done).1, s.R rs1.toNat, s.R rs2.toNat, s.ctrl⟩], s.ats ++ [Int.ofNat s.ops.length]⟩ := by
  unfold instF; simp only [hrd]; rfl
end
theorem inst_sw (s : St) (x : Item) (rd rs1 rs2 imm : Int) : instF s ⟨18, rd, rs1, rs2, 0, imm, false, false⟩ x =
    ⟨s.R, s.ctrl, s.ops ++ [⟨(opF 18 imm false false x.pa x.load x.value x.done).1, s.R rs1.toNat, s.R rs2.toNat, s.ctrl⟩], s.ats ++ [Int.ofNat s.ops.length]⟩ := by
  unfold instF; rfl
theorem inst_sb (s : St) (x : Item) (rd rs1 rs2 imm : Int) : instF s ⟨16, rd, rs1, rs2, 0, imm, false, false⟩ x =
    ⟨s.R, s.ctrl, s.ops ++ [⟨(opF 16 imm false false x.pa x.load x.value x.done).1, s.R rs1.toNat, s.R rs2.toNat, s.ctrl⟩], s.ats ++ [Int.ofNat s.ops.length]⟩ := by
  unfold instF; rfl
theorem inst_fence (s : St) (x : Item) (rd rs1 rs2 imm : Int) : instF s ⟨38, rd, rs1, rs2, 0, imm, false, false⟩ x =
    ⟨s.R, s.ctrl, s.ops ++ [⟨(opF 38 imm false false x.pa x.load x.value x.done).1, [], [], s.ctrl⟩], s.ats ++ [Int.ofNat s.ops.length]⟩ := by
  unfold instF; rfl
theorem inst_beq (s : St) (x : Item) (rd rs1 rs2 imm : Int) : instF s ⟨5, rd, rs1, rs2, 0, imm, false, false⟩ x =
    ⟨s.R, jn (s.ctrl ++ s.R rs1.toNat ++ s.R rs2.toNat), s.ops, s.ats ++ [-1]⟩ := by
  unfold instF; rfl
theorem inst_jalr (s : St) (x : Item) (rs1 rs2 imm : Int) : instF s ⟨4, 0, rs1, rs2, 0, imm, false, false⟩ x =
    ⟨s.R, jn (s.ctrl ++ s.R rs1.toNat ++ s.R rs2.toNat), s.ops, s.ats ++ [-1]⟩ := by
  unfold instF; rfl
end Go.Proofs.Ytbcikaoklpekhaa.Ab
