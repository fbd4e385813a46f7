/- What a hanger is: the state, and what one more item makes of it; facts of it. -/
import Derived.Test.YtbcikaoklpekhaaDepItem
namespace Go.Proofs.Ytbcikaoklpekhaa.Ab
open Go Go.RowKit
set_option linter.unusedVariables false
set_option linter.unusedSimpArgs false
/-- An operation, and what it hangs on. -/
structure OpR where
  q : OpT
  addr : List Int
  data : List Int
  ctrl : List Int
def OpR.cells (r : OpR) : List Value := opC r.q (L1 r.addr) (L1 r.data) (L1 r.ctrl)
def opsC (l : List OpR) : List Value := l.flatMap OpR.cells
/-- A hanger's state. -/
structure St where
  R : Nat → List Int
  ctrl : List Int
  ops : List OpR
  ats : List Int
def upd {α : Type} (R : Nat → α) (r : Nat) (v : α) : Nat → α := fun i => if i = r then v else R i
def St.nil : St := ⟨fun _ => [], [], [], []⟩
/-- What has to do with memory hangs on this. -/
def newOp (s : St) (i : Inst) (q : OpT) : OpR :=
  ⟨q, bif q.kind != 4 then s.R i.rs1.toNat else [], bif kindF i.op == 5 || kindF i.op == 6 then s.R i.rs2.toNat else [], s.ctrl⟩
/-- The item's operation taken in. -/
def takeOp (s : St) (i : Inst) (o : OpT × Bool) : St :=
  bif o.2 then { s with ops := s.ops ++ [newOp s i o.1], ats := s.ats ++ [Int.ofNat s.ops.length] } else { s with ats := s.ats ++ [-1] }
def takeCtrl (s : St) (i : Inst) : List Int :=
  bif kindF i.op == 3 || i.op == 4 then jn (s.ctrl ++ s.R i.rs1.toNat ++ s.R i.rs2.toNat) else s.ctrl
def takeReg (s : St) (i : Inst) (mine : List Int) : List Int :=
  bif kindF i.op == 1 && (i.op != 1 && i.op != 2) then jn (s.R i.rs1.toNat ++ s.R i.rs2.toNat) else bif kindF i.op == 4 || kindF i.op == 6 then mine else []
def mineL (s : St) (b : Bool) : List Int := bif b then [Int.ofNat s.ops.length] else []
/-- An instruction's item. -/
noncomputable def instF (s : St) (i : Inst) (x : Item) : St :=
  let s1 := takeOp s i (opOf i x)
  { s1 with ctrl := takeCtrl s i, R := bif rdF i.op && !(i.rd == 0) then upd s.R i.rd.toNat (takeReg s i (mineL s (opOf i x).2)) else s.R }
/-- One more item. -/
noncomputable def itemF (s : St) (x : Item) : St :=
  bif x.trap || !(dec x.word).2 then { s with ats := s.ats ++ [-1] } else instF s (dec x.word).1 x
theorem takeOp_R (s : St) (i : Inst) (o : OpT × Bool) : (takeOp s i o).R = s.R := by unfold takeOp; cases o.2 <;> rfl
theorem takeOp_ctrl (s : St) (i : Inst) (o : OpT × Bool) : (takeOp s i o).ctrl = s.ctrl := by unfold takeOp; cases o.2 <;> rfl
/-! ### A decoded instruction -/
theorem fl31 (w d : Int) : 0 ≤ fl w d 31 ∧ fl w d 31 < 32 := by
  have h : fl w d 31 = ((BitVec.ofInt 32 (w.fdiv d) &&& BitVec.ofInt 32 31).toNat : Int) := by
    show IntKind.u32.wrap _ = _
    rw [IntKind.wrap_u32]
    have := (BitVec.ofInt 32 (w.fdiv d) &&& BitVec.ofInt 32 31).isLt
    show ((BitVec.ofInt 32 (w.fdiv d) &&& BitVec.ofInt 32 31).toNat : Int) % 4294967296 = _
    omega
  rw [h, BitVec.toNat_and, show (BitVec.ofInt 32 31).toNat = 2 ^ 5 - 1 by decide, Nat.and_two_pow_sub_one_eq_mod]
  omega
theorem reg_lt (w d : Int) : 0 ≤ reg w d ∧ reg w d < 32 := by
  have h := fl31 w d
  have : reg w d = fl w d 31 := w64_of h.1 (by omega)
  rw [this]; exact h
structure InstOK (i : Inst) : Prop where
  op : isOp i.op = true
  rs1 : 0 ≤ i.rs1 ∧ i.rs1 < 32
  rs2 : 0 ≤ i.rs2 ∧ i.rs2 < 32
  rd : 0 ≤ i.rd ∧ i.rd < 32
theorem decI_ok (form op w : Int) (ho : isOp op = true) (hf : 0 ≤ form ∧ form < 14) : InstOK (decI form op w) := by
  have z : (0 : Int) ≤ 0 ∧ (0 : Int) < 32 := by omega
  have key : ∀ (n : Nat), n < 14 → InstOK (decI n op w) := by
    intro n hn
    match n, hn with
    | 0, _ => exact ⟨ho, z, z, reg_lt _ _⟩
    | 1, _ => exact ⟨ho, z, z, reg_lt _ _⟩
    | 2, _ => exact ⟨ho, reg_lt _ _, z, reg_lt _ _⟩
    | 3, _ => exact ⟨ho, reg_lt _ _, reg_lt _ _, z⟩
    | 4, _ => exact ⟨ho, reg_lt _ _, reg_lt _ _, z⟩
    | 5, _ => exact ⟨ho, reg_lt _ _, z, reg_lt _ _⟩
    | 6, _ => exact ⟨ho, reg_lt _ _, reg_lt _ _, reg_lt _ _⟩
    | 7, _ => exact ⟨ho, z, z, z⟩
    | 8, _ => exact ⟨ho, z, z, z⟩
    | 9, _ => exact ⟨ho, reg_lt _ _, reg_lt _ _, z⟩
    | 10, _ => exact ⟨ho, reg_lt _ _, z, reg_lt _ _⟩
    | 11, _ => exact ⟨ho, z, z, reg_lt _ _⟩
    | 12, _ => exact ⟨ho, reg_lt _ _, z, reg_lt _ _⟩
    | 13, _ => exact ⟨ho, reg_lt _ _, reg_lt _ _, reg_lt _ _⟩
  have := key form.toNat (by omega)
  rwa [Int.toNat_of_nonneg hf.1] at this
theorem table_ok : ∀ r ∈ table, isOp r.op = true ∧ 0 ≤ r.form ∧ r.form < 14 := by decide
theorem decL_ok : ∀ (l : List Row) (w : Int), (∀ r ∈ l, isOp r.op = true ∧ 0 ≤ r.form ∧ r.form < 14) → (decL l w).2 = true → InstOK (decL l w).1
  | [], w, _, h => by cases h
  | r :: l, w, hl, h => by
    unfold decL at h ⊢
    cases hb : fitsB r.form r.opc r.f3 r.f7 w with
    | true =>
      rw [cond_true]
      have := hl r (List.mem_cons_self ..)
      exact decI_ok _ _ _ this.1 this.2
    | false =>
      rw [hb, cond_false] at h
      rw [cond_false]
      exact decL_ok l w (fun x hx => hl x (List.mem_cons_of_mem _ hx)) h
theorem dec_ok {w : Int} (h : (dec w).2 = true) : InstOK (dec w).1 := decL_ok table w table_ok h
/-! ### A hanger's cells -/
theorem hgC_eq (R : Nat → Value) (c o a : Value) : hgC R c o a = (List.range 32).map R ++ [c, o, a] := rfl
theorem hgC_len (R : Nat → Value) (c o a : Value) : (hgC R c o a).length = 35 := rfl
theorem hgC_get {R : Nat → Value} {c o a : Value} {r : Nat} (h : r < 32) : (hgC R c o a).getD r undef = R r := by
  rw [hgC_eq, List.getD_eq_getElem?_getD, List.getElem?_append_left (by simpa using h)]
  simp [h]
theorem hgC_set {R : Nat → Value} {c o a v : Value} {r : Nat} (h : r < 32) : (hgC R c o a).set r v = hgC (upd R r v) c o a := by
  rw [hgC_eq, hgC_eq, List.set_append_left _ _ (by simpa using h)]
  congr 1
  apply List.ext_getElem?
  intro k
  rw [List.getElem?_set]
  by_cases hk : r = k
  · subst hk
    simp [h, upd]
  · rw [if_neg hk]
    by_cases hk2 : k < 32
    · simp [hk2, upd, Ne.symm hk]
    · simp [hk2]
theorem hgC_mem {R : Nat → Value} {c o a v : Value} (h : v ∈ hgC R c o a) : (∃ i, i < 32 ∧ v = R i) ∨ v = c ∨ v = o ∨ v = a := by
  rw [hgC_eq, List.mem_append] at h
  rcases h with h | h
  · obtain ⟨i, hi, rfl⟩ := List.mem_map.1 h
    exact .inl ⟨i, by simpa using hi, rfl⟩
  · simp at h; exact .inr h
theorem opsC_len (l : List OpR) : (opsC l).length = l.length * 13 := by
  induction l with
  | nil => rfl
  | cons r l ih => simp only [opsC, List.flatMap_cons, List.length_append, List.length_cons] at ih ⊢; rw [ih]; simp [OpR.cells, opC]; omega
theorem opsC_append (l l' : List OpR) : opsC (l ++ l') = opsC l ++ opsC l' := by simp [opsC]
theorem opC_gh {q : OpT} {a d c : Value} (ha : Gh a) (hd : Gh d) (hc : Gh c) : ∀ x ∈ opC q a d c, Gh x := by
  intro x hx
  simp only [opC, List.mem_cons, List.not_mem_nil, or_false] at hx
  rcases hx with rfl | rfl | rfl | rfl | rfl | rfl | rfl | rfl | rfl | rfl | rfl | rfl | rfl <;> first | exact Gh.plain rfl | assumption
theorem opsC_gh (l : List OpR) : ∀ x ∈ opsC l, Gh x := by
  intro x hx
  obtain ⟨r, _, hr⟩ := List.mem_flatMap.1 hx
  exact opC_gh (Gh.L1 _) (Gh.L1 _) (Gh.L1 _) x hr
end Go.Proofs.Ytbcikaoklpekhaa.Ab
