/- Trimmed: Ab4 -/
import Derived.Test.YtgkicojmgokinaaGreatDoorAb3
namespace Go.Proofs.YtgkicojmgokinaaGreatDoor.Ab
open Go Go.RowKit
set_option linter.unusedVariables false
set_option linter.unusedSimpArgs false
section
variable {P : Program} {T : Tab} (hT : TabOK P T) {lo : Nat} {M : Mp} {H : Heap} {w : World} (hR : Rel lo M H w) {F : Fr} {a : Act} (hF : FR M F a.tmps) {v : Value}
theorem intOp_run {op : BinOp} {k : IntKind} {x y : Int} (h : intOp op k x y = some v) (t : TypeId) (w : World) (hs : op ≠ .shl ∧ op ≠ .shr) : (binOp op t (.int k x) (.int k y)).run P w = .ok v w ∧ plain v = true := by
  cases op <;> simp [intOp] at h <;> simp at hs
  case quo => obtain ⟨h0, rfl⟩ := h; exact ⟨by simp [binOp, Op.intDiv, h0], rfl⟩
  case rem => obtain ⟨h0, rfl⟩ := h; exact ⟨by simp [binOp, Op.intDiv, h0], rfl⟩
  all_goals (subst h; exact ⟨by simp [binOp, Op.intArith, Op.intCmp, intBits_and, intBits_or, intBits_xor, intBits_andNot], rfl⟩)
theorem shiftOp_run {op : BinOp} {k k' : IntKind} {x y : Int} (h : shiftOp op k x y = some v) (t : TypeId) (w : World) : (binOp op t (.int k x) (.int k' y)).run P w = .ok v w ∧ plain v = true := by
  unfold shiftOp at h
  split at h
  · cases h
  · rename_i h0
    split at h
    · cases h; exact ⟨by simp [binOp, Op.shift, h0], rfl⟩
    · cases h; exact ⟨by simp [binOp, Op.shift, h0], rfl⟩
    · cases h
theorem strOp_run {op : BinOp} {x y : ByteArray} (h : strOp op x y = some v) (t : TypeId) (w : World) : (binOp op t (.string x) (.string y)).run P w = .ok v w ∧ plain v = true := by
  have hmax : IntKind.i64.max = 9223372036854775807 := by decide
  cases op <;> simp [strOp] at h
  case add =>
    obtain ⟨h0, rfl⟩ := h
    refine ⟨?_, rfl⟩
    have : ¬ (((x.size + y.size : Nat) : Int) > IntKind.i64.max) := by rw [hmax]; omega
    simp only [binOp, Op.stringOp, if_neg this]
    rfl
  all_goals (subst h; exact ⟨by simp [binOp, Op.stringOp], rfl⟩)
theorem eqGuard_int (op : BinOp) (t : TypeId) (X Y : Operand) (k k' : IntKind) (x y : Int) (w : World) : (eqGuard op t X Y (.int k x) (.int k' y)).run P w = .ok () w := by unfold eqGuard; cases op <;> rfl
theorem eqGuard_str (op : BinOp) (t : TypeId) (X Y : Operand) (x y : ByteArray) (w : World) : (eqGuard op t X Y (.string x) (.string y)).run P w = .ok () w := by unfold eqGuard; cases op <;> rfl
include hT in
theorem binA_run {op : BinOp} {t : TypeId} {X Y : Operand} {x y x' y' : Value} (hx : VR M x x') (hy : VR M y y') (h : binA T op t (Region.isConst X || Region.isConst Y) x y = some v) :
    plain v = true ∧ ∀ w, (eqGuard op t X Y x' y').run P w = .ok () w ∧ (binOp op t x' y').run P w = .ok v w := by
  unfold binA at h
  split at h
  · rename_i k a k' b
    cases hx; cases hy
    split at h
    · exact ⟨(shiftOp_run (P := P) (k' := k') h t default).2, fun w => ⟨eqGuard_int _ _ _ _ _ _ _ _ _, (shiftOp_run h t w).1⟩⟩
    · exact ⟨(shiftOp_run (P := P) (k' := k') h t default).2, fun w => ⟨eqGuard_int _ _ _ _ _ _ _ _ _, (shiftOp_run h t w).1⟩⟩
    · rename_i h1 h2
      split at h
      · rename_i hk
        subst hk
        exact ⟨(intOp_run (P := P) h t default ⟨by simpa using h1, by simpa using h2⟩).2, fun w => ⟨eqGuard_int _ _ _ _ _ _ _ _ _, (intOp_run h t w ⟨by simpa using h1, by simpa using h2⟩).1⟩⟩
      · cases h
  · cases hx; cases hy
    exact ⟨(strOp_run (P := P) h t default).2, fun w => ⟨eqGuard_str _ _ _ _ _ _ _, (strOp_run h t w).1⟩⟩
  · rename_i h1 h2
    split at h
    · rename_i b hb
      have key := eqA_sound (op := op) hT hx hy rfl hb
      cases op <;> simp [eqOp] at h
      all_goals
        subst h
        refine ⟨rfl, fun w => ⟨(key w).1, ?_⟩⟩
        have h3 := (key w).2
        have hne : ∀ k a k' b, ¬ (x' = .int k a ∧ y' = .int k' b) := by
          rintro k a k' b ⟨rfl, rfl⟩; cases hx <;> cases hy <;> first | exact h1 _ _ _ _ rfl rfl | (simp [eqA, opq] at hb; done)
        have hns : ∀ a b, ¬ (x' = .string a ∧ y' = .string b) := by
          rintro a b ⟨rfl, rfl⟩; cases hx <;> cases hy <;> first | exact h2 _ _ rfl rfl | (simp [eqA, opq] at hb; done)
        clear h1 h2 key
        cases hx <;> cases hy <;> first | exact (hne _ _ _ _ ⟨rfl, rfl⟩).elim | exact (hns _ _ ⟨rfl, rfl⟩).elim | (simp [eqA, opq, gs, gp] at hb; done) | (clear hb; simp_all [binOp])
    · cases h
include hT hF in
theorem q_bin {op : BinOp} {t t' : TypeId} {X Y : Operand} {x y : Value} (hx : arg F X = some x) (hy : arg F Y = some y) (h : binA T op t (Region.isConst X || Region.isConst Y) x y = some v) : Quiet P w M H a.eval (.binOp op t X Y t') v := by
  obtain ⟨h1, h2⟩ := binA_run (P := P) hT (arg_sound hF hx) (arg_sound hF hy) h
  exact ⟨v, plain_VR h1, fun o ho w' _ => by simp [execOp, ho, (h2 w').1, (h2 w').2]⟩
include hF in
theorem q_un {op : UnOp} {t : TypeId} {X : Operand} {x : Value} (hx : arg F X = some x) (h : unA op x = some v) : Quiet P w M H a.eval (.unOp op t X) v := by
  have hx' := arg_sound hF hx
  generalize hz : a.eval X = x' at hx'
  unfold unA at h
  split at h <;> first
    | (cases h; cases hx'; exact ⟨_, plain_VR rfl, fun o ho w' _ => by simp [execOp, ho, hz, Op.unary, Op.intArith, intBits_xor]⟩)
    | cases h
include hT hF in
theorem q_conv {s d : TypeId} {X : Operand} {x : Value} (hx : arg F X = some x) (h : convA T s d x = some v) : Quiet P w M H a.eval (.convert s d X) v := by
  have hx' := arg_sound hF hx
  generalize hz : a.eval X = x' at hx'
  unfold convA at h
  split at h
  · rename_i i hi
    split at h
    · rename_i k n k' _ _ _ hd
      cases h; cases hx'
      refine ⟨_, plain_VR rfl, fun o ho w' _ => ?_⟩
      obtain ⟨ds, h1, h2, h3⟩ := hT.und hi w'
      obtain ⟨dd, h4, h5, h6⟩ := hT.und hd w'
      have := und_int h6; subst this
      simp [execOp, ho, hz, convert, h1, h4, Conv.intToInt]
    · rename_i s' _ _ _ hd
      cases h; cases hx'
      refine ⟨_, plain_VR rfl, fun o ho w' _ => ?_⟩
      obtain ⟨ds, h1, h2, h3⟩ := hT.und hi w'
      obtain ⟨dd, h4, h5, h6⟩ := hT.und hd w'
      have := und_str h6; subst this
      simp [execOp, ho, hz, convert, h1, h4]
    · cases h
  · cases h
include hT hF in
theorem q_fieldAddr {t : TypeId} {X : Operand} {x : Value} {f : Nat} (hx : arg F X = some x) (h : fieldPlaceA T t x f = some v) : Quiet P w M H a.eval (.fieldAddr t X f) v := by
  have hx' := arg_sound hF hx
  generalize hz : a.eval X = x' at hx'
  unfold fieldPlaceA at h
  split at h
  · rename_i p
    split at h
    · rename_i fs _ _ _ hi
      split at h
      · rename_i off ft hf
        split at h
        · rename_i i hft
          split at h
          · cases h
          · rename_i h0
            cases h; cases hx'
            rename_i b o r s N hM
            refine ⟨_, .ptr hM, fun o ho w' _ => ?_⟩
            obtain ⟨d, h1, h2, h3⟩ := hT.und hi w'
            obtain ⟨gs, rfl, hg⟩ := und_struct h3
            have hsz := hT.sizeOf hft w'
            rw [← hg] at hf
            simp only [List.getElem?_map, Option.map_eq_some_iff] at hf
            obtain ⟨g, hg1, hg2⟩ := hf
            simp only [Prod.mk.injEq] at hg2
            obtain ⟨rfl, rfl⟩ := hg2
            have hg1' : gs[f]? = some g := by simpa using hg1
            simp [execOp, ho, hz, Instr.fieldAt, h1, hg1', Instr.sureAddr, fieldPlace, hsz, h0, add_none, Nat.add_assoc]
        · cases h
      · cases h
    · cases h
  · cases h
include hT hF in
theorem q_indexAddr {t : TypeId} {X I : Operand} {x : Value} {kk : IntKind} {k : Int} (hi : arg F I = some (.int kk k)) (hx : arg F X = some x) (h : placeA T t x k = some v) : Quiet P w M H a.eval (.indexAddr t X I) v := by
  have hx' := arg_sound hF hx
  have hi' := arg_sound hF hi
  generalize hz : a.eval X = x' at hx'
  generalize hzi : a.eval I = i' at hi'
  cases hi'
  unfold placeA at h
  split at h
  · rename_i p
    split at h
    · rename_i n e _ _ _ ht
      split at h
      · rename_i i he
        split at h
        · rename_i hk
          cases h; cases hx'
          rename_i b o r s N hM
          refine ⟨_, .ptr hM, fun o ho w' _ => ?_⟩
          obtain ⟨d, h1, h2, h3⟩ := hT.und ht w'
          have := und_array h3; subst this
          have hsz := hT.sizeOf he w'
          simp [execOp, ho, hz, hzi, Instr.indexAt, asIntOf, h1, Instr.sureAddr, hk, hsz, add_none, Nat.add_assoc]
        · cases h
      · cases h
    · cases h
  · rename_i p n z
    split at h
    · rename_i e _ _ _ ht
      split at h
      · rename_i i he
        split at h
        · rename_i hk
          cases h; cases hx'
          · rename_i b o r s N c hM hnc hN
            refine ⟨_, .ptr hM, fun o ho w' _ => ?_⟩
            obtain ⟨d, h1, h2, h3⟩ := hT.und ht w'
            have := und_slice h3; subst this
            have hsz := hT.sizeOf he w'
            simp [execOp, ho, hz, hzi, Instr.indexAt, asIntOf, h1, Instr.sureAddr, hk, hsz, add_none, Nat.add_assoc]
          · omega
        · cases h
      · cases h
    · cases h
  · cases h
include hT hF in
theorem q_index {t : TypeId} {X I : Operand} {x : Value} {kk : IntKind} {k : Int} (hi : arg F I = some (.int kk k)) (hx : arg F X = some x) (h : indexA T t x k = some v) : Quiet P w M H a.eval (.index t X I) v := by
  have hx' := arg_sound hF hx
  have hi' := arg_sound hF hi
  generalize hz : a.eval X = x' at hx'
  generalize hzi : a.eval I = i' at hi'
  cases hi'
  unfold indexA at h
  split at h
  · rename_i cs
    split at h
    · rename_i n e _ _ _ ht
      split at h
      · rename_i i he
        split at h
        · rename_i hk
          cases hx' with
          | agg ax =>
          obtain ⟨v', h1, h2⟩ := partA_sound hT ax h
          refine ⟨v', h1, fun o ho w' _ => ?_⟩
          obtain ⟨d, h3, h4, h5⟩ := hT.und ht w'
          have := und_array h5; subst this
          have hsz := hT.sizeOf he w'
          simp [execOp, ho, hz, hzi, Instr.index, asIntOf, h3, hk, hsz, h2]
        · cases h
      · cases h
    · cases h
  · rename_i s
    split at h
    · rename_i _ _ _ ht
      split at h
      · rename_i h0
        split at h
        · rename_i b hb
          cases h; cases hx'
          refine ⟨_, plain_VR rfl, fun o ho w' _ => ?_⟩
          obtain ⟨d, h3, h4, h5⟩ := hT.und ht w'
          have := und_str h5; subst this
          simp [execOp, ho, hz, hzi, Instr.index, asIntOf, h3, h0, hb]
        · cases h
      · cases h
    · cases h
  · cases h
include hF in
theorem q_extract {X : Operand} {i : Nat} {vs : Array Value} (hx : arg F X = some (.tuple vs)) (h : vs.toList[i]? = some v) : Quiet P w M H a.eval (.extract X i) v := by
  have hx' := arg_sound hF hx
  generalize hz : a.eval X = x' at hx'
  cases hx' with
  | tuple ax =>
  obtain ⟨y, h1, h2⟩ := ax.get i h
  exact ⟨y, h2, fun o ho w' _ => by simp [execOp, ho, hz, Instr.extract, h1]⟩
include hT hF in
theorem q_field {t : TypeId} {X : Operand} {cs : Array Value} {f : Nat} {fs : List (Nat × TypeId)} {s b : Nat} {z : Value} {off : Nat} {ft : TypeId} (ht : T t = some ⟨.struct fs, s, b, z⟩) (hx : arg F X = some (.agg cs)) (hf : fs[f]? = some (off, ft)) (h : partA T ft cs.toList off = some v) :
    Quiet P w M H a.eval (.field t X f) v := by
  have hx' := arg_sound hF hx
  generalize hz : a.eval X = x' at hx'
  cases hx' with
  | agg ax =>
  obtain ⟨v', h1, h2⟩ := partA_sound hT ax h
  refine ⟨v', h1, fun o ho w' _ => ?_⟩
  obtain ⟨d, h3, h4, h5⟩ := hT.und ht w'
  obtain ⟨gs, rfl, hg⟩ := und_struct h5
  rw [← hg] at hf
  simp only [List.getElem?_map, Option.map_eq_some_iff] at hf
  obtain ⟨g, hg1, hg2⟩ := hf
  simp only [Prod.mk.injEq] at hg2
  obtain ⟨rfl, rfl⟩ := hg2
  have hg1' : gs[f]? = some g := by simpa using hg1
  simp [execOp, ho, hz, Instr.field, h3, hg1', asAgg, h2]
include hT hR hF in
theorem q_load {t : TypeId} {X : Operand} {x : Value} (hx : arg F X = some x) (h : loadA T H t x = some v) : Quiet P w M H a.eval (.load t X) v := by
  have hx' := arg_sound hF hx
  generalize hz : a.eval X = x' at hx'
  unfold loadA at h
  split at h
  · rename_i p
    split at h
    · rename_i i hi
      split at h
      · rename_i cs hcs
        cases hx' with
        | @ptr b off r s N hM =>
        obtain ⟨cs', h1, h2, h3, h4⟩ := cellsAt_real (P := P) hR hcs hM
        cases ha : i.d.agg with
        | true =>
          rw [ha] at h h4 hcs
          simp only [cond_true, Option.some.injEq] at h h4
          subst h
          refine ⟨_, .agg h1, fun o ho w' hw => ?_⟩
          simp [execOp, ho, hz, Instr.loadAt, Instr.sureAddr, loadVar, hT.isAgg hi w', ha, hT.sizeOf hi w', h4 w' hw]
        | false =>
          rw [ha] at h h4 hcs h2
          simp only [cond_false] at h h4 h2
          obtain ⟨y, h5, h6⟩ := h1.get 0 h
          refine ⟨y, h6, fun o ho w' hw => ?_⟩
          have h7 := h4 w' hw
          have e1 : cs' = [y] := by
            cases cs' with
            | nil => simp at h2
            | cons q r => cases r with
              | nil => simp at h5; rw [h5]
              | cons _ _ => simp at h2
          subst e1
          have h8 : (load ⟨r, s + off, none⟩).run P w' = .ok y w' := by
            simp only [loadCells, loadCellsFrom, Sem.run_bind, add_none, Nat.add_zero] at h7
            cases hl : (load ⟨r, s + off, none⟩ : Sem Value).run P w' with
            | ok z w2 => rw [hl] at h7; simp at h7; obtain ⟨rfl, rfl⟩ := h7; rfl
            | halt e w2 => rw [hl] at h7; simp at h7
          simp only [run_load] at h8
          simp only [execOp, ho, hz, Instr.loadAt, Instr.sureAddr, loadVar, Sem.run_bind, hT.isAgg hi w', ha, Sem.run_pure, Result.andThen_ok, Bool.false_eq_true, if_false, run_load, h8]
      · cases h
    · cases h
  · cases h
end
end Go.Proofs.YtgkicojmgokinaaGreatDoor.Ab
