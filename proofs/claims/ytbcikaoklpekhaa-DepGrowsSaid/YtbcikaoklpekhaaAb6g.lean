/- The abstract run, sixth part, second half: operations at places that are not literal, and on data that nobody writes any more: each with what it asks. -/
import Derived.Test.YtbcikaoklpekhaaAb6
namespace Go.Proofs.Ytbcikaoklpekhaa.Ab
open Go Go.RowKit
set_option linter.unusedVariables false
set_option linter.unusedSimpArgs false
def toInt : Value → Int
  | .int _ n => n
  | _ => 0
def isInt (k : IntKind) : Value → Bool
  | .int k' _ => k' == k
  | _ => false
def toBool : Value → Bool
  | .bool b => b
  | _ => false
def isBool : Value → Bool
  | .bool _ => true
  | _ => false
def toStr : Value → ByteArray
  | .string s => s
  | _ => ⟨#[]⟩
def isStr : Value → Bool
  | .string _ => true
  | _ => false
/-- A value of a type, in its shape: whether it is so; the value. -/
def shape (d : TD) (v : Value) : Bool × Value :=
  match d with
  | .int k => (isInt k v, .int k (toInt v))
  | .bool => (isBool v, .bool (toBool v))
  | .str => (isStr v, .string (toStr v))
  | _ => (true, v)
theorem shape_eq {d : TD} {v : Value} (h : (shape d v).1 = true) : (shape d v).2 = v := by
  cases d <;> simp only [shape] at h ⊢
  case bool => cases v <;> simp [isBool] at h <;> rfl
  case int k => cases v <;> simp [isInt] at h <;> subst h <;> rfl
  case str => cases v <;> simp [isStr] at h <;> rfl
/-- What lies at a place of such cells. -/
def loadFrom (i : TI) (cs : List Value) (off : Nat) : Bool × Value :=
  bif i.d.agg then (Nat.ble (off + i.size) cs.length, .agg ⟨(cs.drop off).take i.size⟩)
  else (Nat.blt off cs.length && (shape i.d (cs.getD off undef)).1, (shape i.d (cs.getD off undef)).2)
theorem loadFrom_agg {i : TI} {cs : List Value} {off : Nat} {v : Value} (ha : i.d.agg = true) (h : loadFrom i cs off = (true, v)) : off + i.size ≤ cs.length ∧ v = .agg ((cs.drop off).take i.size).toArray := by
  unfold loadFrom at h
  rw [ha] at h
  simp only [cond_true, Prod.mk.injEq] at h
  exact ⟨Nat.le_of_ble_eq_true h.1, h.2.symm⟩
theorem loadFrom_one {i : TI} {cs : List Value} {off : Nat} {v : Value} (ha : i.d.agg = false) (h : loadFrom i cs off = (true, v)) : off < cs.length ∧ cs[off]? = some v := by
  unfold loadFrom at h
  rw [ha] at h
  simp only [cond_false, Prod.mk.injEq, Bool.and_eq_true] at h
  obtain ⟨⟨h1, h2⟩, h3⟩ := h
  have h1' : off < cs.length := by simpa [Nat.blt_eq] using h1
  rw [shape_eq h2] at h3
  exact ⟨h1', by rw [← h3, List.getD_eq_getElem?_getD, List.getElem?_eq_getElem h1']; rfl⟩
/-- A slice told by what it holds, in such words, of a value that is not known. -/
def isGs : Value → Bool
  | .func (.yield _) ⟨_⟩ ⟨[.int .i64 (.ofNat _)]⟩ => true
  | _ => false
def zOf : Value → Nat
  | .func (.yield z) _ _ => z
  | _ => 0
def csOf : Value → List Value
  | .func _ ⟨xs⟩ _ => xs
  | _ => []
def nOf : Value → Nat
  | .func _ _ ⟨[.int _ (.ofNat n)]⟩ => n
  | _ => 0
theorem etaGs {v : Value} (h : isGs v = true) : gs (zOf v) (csOf v) (nOf v) = v := by
  unfold isGs at h
  split at h
  · rfl
  · cases h
def ghostV (d : TD) (p : Bool × Value) : Bool × Value :=
  match d with
  | .slice _ => (p.1 && isGs p.2, gs (zOf p.2) (csOf p.2) (nOf p.2))
  | _ => p
theorem ghostV_eq {d : TD} {p : Bool × Value} {v : Value} (h : ghostV d p = (true, v)) : p = (true, v) := by
  unfold ghostV at h
  split at h
  · simp only [Prod.mk.injEq, Bool.and_eq_true] at h
    obtain ⟨⟨h1, h2⟩, h3⟩ := h
    rw [etaGs h2] at h3
    exact Prod.ext h1 h3
  · exact h
def loadC (T : Tab) (H : Heap) (t : TypeId) (x : Value) : Option (Bool × Value) :=
  match x with
  | .pointer (some p) => match T t with
    | some i => match H[p.block]? with
      | some (some b) => some (loadFrom i b.cells p.off)
      | _ => none
    | none => none
  | .func (.yield _) ⟨xs⟩ ⟨[]⟩ => match T t with
    | some i => some (ghostV i.d (loadFrom i xs 0))
    | none => none
  | _ => none
def placeG (T : Tab) (t : TypeId) (x : Value) (k : Int) : Option (Bool × Value) :=
  match x with
  | .func (.yield z) ⟨xs⟩ ⟨[.int _ (.ofNat n)]⟩ => match T t with
    | some ⟨.slice e, _, _, _⟩ => match T e with
      | some i => some (decide (0 ≤ k) && (decide (k < Int.ofNat n) && Nat.beq z i.size), gp (xs.drop (k.toNat * i.size)))
      | none => none
    | _ => none
  | .func (.yield _) ⟨xs⟩ ⟨[]⟩ => match T t with
    | some ⟨.array n e, _, _, _⟩ => match T e with
      | some i => some (decide (0 ≤ k) && (decide (k < Int.ofNat n) && Nat.ble (k.toNat * i.size) xs.length), gp (xs.drop (k.toNat * i.size)))
      | none => none
    | _ => none
  | _ => none
def fieldG (T : Tab) (t : TypeId) (x : Value) (f : Nat) : Option (Bool × Value) :=
  match x with
  | .func (.yield _) ⟨xs⟩ ⟨[]⟩ => match T t with
    | some ⟨.struct fs, _, _, _⟩ => match fs[f]? with
      | some (off, ft) => match T ft with
        | some i => some (!(Nat.beq i.size 0) && Nat.ble off xs.length, gp (xs.drop off))
        | none => none
      | none => none
    | _ => none
  | v => match fieldPlaceA T t v f with
    | some v => some (true, v)
    | none => none
/-- A bound of a slice expression. -/
def boundC (F : Fr) (x : Option Operand) (d : Nat) : Option (Bool × Nat) :=
  match x with
  | none => some (true, d)
  | some a => match arg F a with
    | some (.int _ k) => some (decide (0 ≤ k), k.toNat)
    | _ => none
def sliceG (T : Tab) (H : Heap) (F : Fr) (t : TypeId) (x : Value) (lo hi : Option Operand) : Option (Bool × Value) :=
  match x with
  | .string s => match T t, boundC F lo 0, boundC F hi s.size with
    | some ⟨.str, _, _, _⟩, some (a, l), some (b, h) => some (a && (b && (Nat.ble l h && Nat.ble h s.size)), .string (s.extract l h))
    | _, _, _ => none
  | .func (.yield z) ⟨xs⟩ ⟨[.int _ (.ofNat n)]⟩ => match T t, boundC F lo 0, boundC F hi n with
    | some ⟨.slice e, _, _, _⟩, some (a, l), some (b, h) => match T e with
      | some i => some (a && (b && (Nat.ble l h && (Nat.ble h n && Nat.beq z i.size))), gs z ((xs.drop (l * z)).take ((h - l) * z)) (h - l))
      | none => none
    | _, _, _ => none
  | v => match sliceA T H F t v lo hi with
    | some v => some (true, v)
    | none => none
def byteAt (s : ByteArray) (k : Nat) : Int := match s[k]? with
  | some b => b.toNat
  | none => 0
def indexG (T : Tab) (t : TypeId) (x : Value) (k : Int) : Option (Bool × Value) :=
  match x with
  | .agg cs => match T t with
    | some ⟨.array n e, _, _, _⟩ => match T e with
      | some i => match loadFrom i cs.toList (k.toNat * i.size) with
        | (g, v) => some (decide (0 ≤ k) && (decide (k < Int.ofNat n) && g), v)
      | none => none
    | _ => none
  | .string s => match T t with
    | some ⟨.str, _, _, _⟩ => some (decide (0 ≤ k) && Nat.blt k.toNat s.size, .int .u8 (byteAt s k.toNat))
    | _ => none
  | _ => none
def partG (T : Tab) (t : TypeId) (cs : List Value) (off : Nat) : Option (Bool × Value) :=
  match T t with
  | some i => some (loadFrom i cs off)
  | none => none
/-- Whether it is a slice that is told, and of how many elements: of a value that is not known, too. -/
def isLen : Value → Bool
  | .func (.yield _) _ ⟨[.int _ _]⟩ => true
  | .slice _ _ _ => true
  | _ => false
def lenOf : Value → Int
  | .func (.yield _) _ ⟨[.int _ m]⟩ => m
  | .slice _ n _ => Int.ofNat n
  | _ => 0
def lenG (T : Tab) (t : TypeId) (x : Value) : Option (Bool × Value) :=
  match T t with
  | some ⟨.slice _, _, _, _⟩ => some (isLen x, .int .i64 (lenOf x))
  | _ => match lenA T t x with
    | some v => some (true, v)
    | none => none
theorem Froz.cells {P : Program} {w : World} {r o : Nat} {ys : List Value} (h : Froz w r o ys) (k n : Nat) (hk : k + n ≤ ys.length) : (loadCells ⟨r, o + k, none⟩ n).run P w = .ok ((ys.drop k).take n).toArray w := by
  obtain ⟨cs, t, f, h1, h2, h3, _⟩ := h
  have hl : ((ys.drop k).take n).length = n := by simp; omega
  have := run_loadCells_list (P := P) w ⟨r, o + k, none⟩ ((ys.drop k).take n) fun j u hj => by
    have hjn : j < n := by rw [← hl]; exact (List.getElem?_eq_some_iff.1 hj).1
    rw [List.getElem?_take_of_lt hjn, List.getElem?_drop, ← h3, List.getElem?_take_of_lt (by omega), List.getElem?_drop] at hj
    rw [add_none]
    simp only [World.cell?, h1]
    rw [← hj]; simp [Nat.add_assoc]
  rwa [hl] at this
section
variable {P : Program} {T : Tab} (hT : TabOK P T) {lo : Nat} {M : Mp} {H : Heap} {w : World} (hR : Rel lo M H w) {F : Fr} {a : Act} (hF : FR M F a.tmps) {v : Value}
include hT hR hF in
theorem c_load {t : TypeId} {X : Operand} {x : Value} (hx : arg F X = some x) (h : loadC T H t x = some (true, v)) : Quiet P w M H a.eval (.load t X) v := by
  unfold loadC at h
  split at h
  · rename_i p
    split at h
    · rename_i i hi
      split at h
      · rename_i b hb
        simp only [Option.some.injEq] at h
        cases ha : i.d.agg with
        | true =>
          obtain ⟨h1, h2⟩ := loadFrom_agg ha h
          exact q_load hT hR hF hx (by simp only [loadA, hi, ha, cond_true, cellsAt, hb, if_pos h1, h2])
        | false =>
          obtain ⟨h1, h2⟩ := loadFrom_one ha h
          refine q_load hT hR hF hx ?_
          have e : ((b.cells.drop p.off).take 1)[0]? = some v := by rw [List.getElem?_take_of_lt (by decide), List.getElem?_drop]; exact h2
          simp only [loadA, hi, ha, cond_false, cellsAt, hb, if_pos (show p.off + 1 ≤ b.cells.length by omega), e]
      · cases h
    · cases h
  · rename_i zz xs
    split at h
    · rename_i i hi
      simp only [Option.some.injEq] at h
      have h := ghostV_eq h
      have hx' := arg_sound hF hx
      generalize hz : a.eval X = x' at hx'
      generalize hg : (Value.func (.yield zz) ⟨xs⟩ ⟨[]⟩) = g at hx'
      cases hx' <;> first | (cases hg; done) | skip
      rename_i xs' ys r o k hfz hk hv
      have hxs : xs' = xs := by injection hg with _ e _; injection e with e; exact e.symm
      subst hxs
      cases ha : i.d.agg with
      | true =>
        obtain ⟨h1, h2⟩ := loadFrom_agg ha h
        subst h2
        rw [List.drop_zero, Nat.zero_add] at *
        refine ⟨.agg ((ys.drop k).take i.size).toArray, .agg ?_, fun o' ho w' hw => ?_⟩
        · have := hv.take i.size
          rwa [List.take_take, Nat.min_eq_left h1] at this
        · have hfz' := (hR.froz _ _ _ hfz).1.of (hw.fz _ _ _ hfz)
          have h4 := hfz'.cells (P := P) k i.size (by omega)
          simp [execOp, ho, hz, Instr.loadAt, Instr.sureAddr, loadVar, hT.isAgg hi w', ha, hT.sizeOf hi w', h4]
      | false =>
        obtain ⟨h1, h2⟩ := loadFrom_one ha h
        obtain ⟨y, h5, h6⟩ := hv.get 0 h2
        refine ⟨y, h6, fun o' ho w' hw => ?_⟩
        have hfz' := (hR.froz _ _ _ hfz).1.of (hw.fz _ _ _ hfz)
        have h4 := hfz'.cells (P := P) k 1 (by omega)
        have e1 : (ys.drop k).take 1 = [y] := by
          rw [List.getElem?_take_of_lt h1] at h5
          cases hd : ys.drop k with
          | nil => rw [hd] at h5; cases h5
          | cons q l => rw [hd] at h5; simp at h5; simp [h5]
        rw [e1] at h4
        have h8 : (load ⟨r, o + k, none⟩).run P w' = .ok y w' := by
          simp only [loadCells, loadCellsFrom, Sem.run_bind, add_none, Nat.add_zero] at h4
          cases hl : (load ⟨r, o + k, none⟩ : Sem Value).run P w' with
          | ok z w2 => rw [hl] at h4; simp at h4; obtain ⟨rfl, rfl⟩ := h4; rfl
          | halt e w2 => rw [hl] at h4; simp at h4
        simp only [run_load] at h8
        simp only [execOp, ho, hz, Instr.loadAt, Instr.sureAddr, loadVar, Sem.run_bind, hT.isAgg hi w', ha, Sem.run_pure, Result.andThen_ok, Bool.false_eq_true, if_false, run_load, h8]
    · cases h
  · cases h
end
end Go.Proofs.Ytbcikaoklpekhaa.Ab
