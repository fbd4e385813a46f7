/- Trimmed: Ab6h -/
import Derived.Test.YtgkicojmgokinaaGreatDoorAb5
namespace Go.Proofs.YtgkicojmgokinaaGreatDoor.Ab
open Go Go.RowKit
set_option linter.unusedVariables false
set_option linter.unusedSimpArgs false
def toInt : Value → Int
  | .int _ n => n
  | _ => 0
def isInt (k : IntKind) : Value → Bool
  | .int k' _ => k' == k
  | _ => false
def toBool : Value → Bool
  | .bool b => b
  | _ => false
def isBool : Value → Bool
  | .bool _ => true
  | _ => false
def toStr : Value → ByteArray
  | .string s => s
  | _ => ⟨#[]⟩
def isStr : Value → Bool
  | .string _ => true
  | _ => false
def shape (d : TD) (v : Value) : Bool × Value :=
  match d with
  | .int k => (isInt k v, .int k (toInt v))
  | .bool => (isBool v, .bool (toBool v))
  | .str => (isStr v, .string (toStr v))
  | _ => (true, v)
theorem shape_eq {d : TD} {v : Value} (h : (shape d v).1 = true) : (shape d v).2 = v := by
  cases d <;> simp only [shape] at h ⊢
  case bool => cases v <;> simp [isBool] at h <;> rfl
  case int k => cases v <;> simp [isInt] at h <;> subst h <;> rfl
  case str => cases v <;> simp [isStr] at h <;> rfl
def loadFrom (i : TI) (cs : List Value) (off : Nat) : Bool × Value :=
  bif i.d.agg then (Nat.ble (off + i.size) cs.length, .agg ⟨(cs.drop off).take i.size⟩)
  else (Nat.blt off cs.length && (shape i.d (cs.getD off undef)).1, (shape i.d (cs.getD off undef)).2)
theorem loadFrom_agg {i : TI} {cs : List Value} {off : Nat} {v : Value} (ha : i.d.agg = true) (h : loadFrom i cs off = (true, v)) : off + i.size ≤ cs.length ∧ v = .agg ((cs.drop off).take i.size).toArray := by
  unfold loadFrom at h
  rw [ha] at h
  simp only [cond_true, Prod.mk.injEq] at h
  exact ⟨Nat.le_of_ble_eq_true h.1, h.2.symm⟩
theorem loadFrom_one {i : TI} {cs : List Value} {off : Nat} {v : Value} (ha : i.d.agg = false) (h : loadFrom i cs off = (true, v)) : off < cs.length ∧ cs[off]? = some v := by
  unfold loadFrom at h
  rw [ha] at h
  simp only [cond_false, Prod.mk.injEq, Bool.and_eq_true] at h
  obtain ⟨⟨h1, h2⟩, h3⟩ := h
  have h1' : off < cs.length := by simpa [Nat.blt_eq] using h1
  rw [shape_eq h2] at h3
  exact ⟨h1', by rw [← h3, List.getD_eq_getElem?_getD, List.getElem?_eq_getElem h1']; rfl⟩
def isGs : Value → Bool
  | .func (.yield _) ⟨_⟩ ⟨[.int .i64 (.ofNat _)]⟩ => true
  | _ => false
def zOf : Value → Nat
  | .func (.yield z) _ _ => z
  | _ => 0
def csOf : Value → List Value
  | .func _ ⟨xs⟩ _ => xs
  | _ => []
def nOf : Value → Nat
  | .func _ _ ⟨[.int _ (.ofNat n)]⟩ => n
  | _ => 0
theorem etaGs {v : Value} (h : isGs v = true) : gs (zOf v) (csOf v) (nOf v) = v := by
  unfold isGs at h
  split at h
  · rfl
  · cases h
def ghostV (d : TD) (p : Bool × Value) : Bool × Value :=
  match d with
  | .slice _ => (p.1 && isGs p.2, gs (zOf p.2) (csOf p.2) (nOf p.2))
  | _ => p
theorem ghostV_eq {d : TD} {p : Bool × Value} {v : Value} (h : ghostV d p = (true, v)) : p = (true, v) := by
  unfold ghostV at h
  split at h
  · simp only [Prod.mk.injEq, Bool.and_eq_true] at h
    obtain ⟨⟨h1, h2⟩, h3⟩ := h
    rw [etaGs h2] at h3
    exact Prod.ext h1 h3
  · exact h
def loadC (T : Tab) (H : Heap) (t : TypeId) (x : Value) : Option (Bool × Value) :=
  match x with
  | .pointer (some p) => match T t with
    | some i => match H[p.block]? with
      | some (some b) => some (loadFrom i b.cells p.off)
      | _ => none
    | none => none
  | .func (.yield _) ⟨xs⟩ ⟨[]⟩ => match T t with
    | some i => some (ghostV i.d (loadFrom i xs 0))
    | none => none
  | .func (.methodOf 1 _) _ ⟨[.pointer (some ⟨g, 0, none⟩)]⟩ => match T t with
    | some i => bif snts.contains g && !i.d.agg then some (true, errV g) else none
    | none => none
  | _ => none
def placeG (T : Tab) (t : TypeId) (x : Value) (k : Int) : Option (Bool × Value) :=
  match x with
  | .func (.yield z) ⟨xs⟩ ⟨[.int _ (.ofNat n)]⟩ => match T t with
    | some ⟨.slice e, _, _, _⟩ => match T e with
      | some i => some (decide (0 ≤ k) && (decide (k < Int.ofNat n) && Nat.beq z i.size), gp (xs.drop (k.toNat * i.size)))
      | none => none
    | _ => none
  | .func (.yield _) ⟨xs⟩ ⟨[]⟩ => match T t with
    | some ⟨.array n e, _, _, _⟩ => match T e with
      | some i => some (decide (0 ≤ k) && (decide (k < Int.ofNat n) && Nat.ble (k.toNat * i.size) xs.length), gp (xs.drop (k.toNat * i.size)))
      | none => none
    | _ => none
  | _ => none
def fieldG (T : Tab) (t : TypeId) (x : Value) (f : Nat) : Option (Bool × Value) :=
  match x with
  | .func (.yield _) ⟨xs⟩ ⟨[]⟩ => match T t with
    | some ⟨.struct fs, _, _, _⟩ => match fs[f]? with
      | some (off, ft) => match T ft with
        | some i => some (!(Nat.beq i.size 0) && Nat.ble off xs.length, gp (xs.drop off))
        | none => none
      | none => none
    | _ => none
  | v => match fieldPlaceA T t v f with
    | some v => some (true, v)
    | none => none
def boundC (F : Fr) (x : Option Operand) (d : Nat) : Option (Bool × Nat) :=
  match x with
  | none => some (true, d)
  | some a => match arg F a with
    | some (.int _ k) => some (decide (0 ≤ k), k.toNat)
    | _ => none
def sliceG (T : Tab) (H : Heap) (F : Fr) (t : TypeId) (x : Value) (lo hi : Option Operand) : Option (Bool × Value) :=
  match x with
  | .string s => match T t, boundC F lo 0, boundC F hi s.size with
    | some ⟨.str, _, _, _⟩, some (a, l), some (b, h) => some (a && (b && (Nat.ble l h && Nat.ble h s.size)), .string (s.extract l h))
    | _, _, _ => none
  | .func (.yield z) ⟨xs⟩ ⟨[.int _ (.ofNat n)]⟩ => match T t, boundC F lo 0, boundC F hi n with
    | some ⟨.slice e, _, _, _⟩, some (a, l), some (b, h) => match T e with
      | some i => some (a && (b && (Nat.ble l h && (Nat.ble h n && Nat.beq z i.size))), gs z ((xs.drop (l * z)).take ((h - l) * z)) (h - l))
      | none => none
    | _, _, _ => none
  | v => match sliceA T H F t v lo hi with
    | some v => some (true, v)
    | none => none
def byteAt (s : ByteArray) (k : Nat) : Int := match s[k]? with
  | some b => b.toNat
  | none => 0
def indexG (T : Tab) (t : TypeId) (x : Value) (k : Int) : Option (Bool × Value) :=
  match x with
  | .agg cs => match T t with
    | some ⟨.array n e, _, _, _⟩ => match T e with
      | some i => match loadFrom i cs.toList (k.toNat * i.size) with
        | (g, v) => some (decide (0 ≤ k) && (decide (k < Int.ofNat n) && g), v)
      | none => none
    | _ => none
  | .string s => match T t with
    | some ⟨.str, _, _, _⟩ => some (decide (0 ≤ k) && Nat.blt k.toNat s.size, .int .u8 (byteAt s k.toNat))
    | _ => none
  | _ => none
def partG (T : Tab) (t : TypeId) (cs : List Value) (off : Nat) : Option (Bool × Value) :=
  match T t with
  | some i => some (loadFrom i cs off)
  | none => none
def isLen : Value → Bool
  | .func (.yield _) _ ⟨[.int _ _]⟩ => true
  | .slice _ _ _ => true
  | _ => false
def lenOf : Value → Int
  | .func (.yield _) _ ⟨[.int _ m]⟩ => m
  | .slice _ n _ => Int.ofNat n
  | _ => 0
def lenG (T : Tab) (t : TypeId) (x : Value) : Option (Bool × Value) :=
  match T t with
  | some ⟨.slice _, _, _, _⟩ => some (isLen x, .int .i64 (lenOf x))
  | _ => match lenA T t x with
    | some v => some (true, v)
    | none => none
theorem Froz.cells {P : Program} {w : World} {r o : Nat} {ys : List Value} (h : Froz w r o ys) (k n : Nat) (hk : k + n ≤ ys.length) : (loadCells ⟨r, o + k, none⟩ n).run P w = .ok ((ys.drop k).take n).toArray w := by
  obtain ⟨cs, t, f, h1, h2, h3, _⟩ := h
  have hl : ((ys.drop k).take n).length = n := by simp; omega
  have := run_loadCells_list (P := P) w ⟨r, o + k, none⟩ ((ys.drop k).take n) fun j u hj => by
    have hjn : j < n := by rw [← hl]; exact (List.getElem?_eq_some_iff.1 hj).1
    rw [List.getElem?_take_of_lt hjn, List.getElem?_drop, ← h3, List.getElem?_take_of_lt (by omega), List.getElem?_drop] at hj
    rw [add_none]
    simp only [World.cell?, h1]
    rw [← hj]; simp [Nat.add_assoc]
  rwa [hl] at this
section
variable {P : Program} {T : Tab} (hT : TabOK P T) {lo : Nat} {M : Mp} {H : Heap} {w : World} (hR : Rel lo M H w) {F : Fr} {a : Act} (hF : FR M F a.tmps) {v : Value}
include hT hR hF in
theorem c_load {t : TypeId} {X : Operand} {x : Value} (hx : arg F X = some x) (h : loadC T H t x = some (true, v)) : Quiet P w M H a.eval (.load t X) v := by
  unfold loadC at h
  split at h
  · rename_i p
    split at h
    · rename_i i hi
      split at h
      · rename_i b hb
        simp only [Option.some.injEq] at h
        cases ha : i.d.agg with
        | true =>
          obtain ⟨h1, h2⟩ := loadFrom_agg ha h
          exact q_load hT hR hF hx (by simp only [loadA, hi, ha, cond_true, cellsAt, hb, if_pos h1, h2])
        | false =>
          obtain ⟨h1, h2⟩ := loadFrom_one ha h
          refine q_load hT hR hF hx ?_
          have e : ((b.cells.drop p.off).take 1)[0]? = some v := by rw [List.getElem?_take_of_lt (by decide), List.getElem?_drop]; exact h2
          simp only [loadA, hi, ha, cond_false, cellsAt, hb, if_pos (show p.off + 1 ≤ b.cells.length by omega), e]
      · cases h
    · cases h
  · rename_i zz xs
    split at h
    · rename_i i hi
      simp only [Option.some.injEq] at h
      have h := ghostV_eq h
      have hx' := arg_sound hF hx
      generalize hz : a.eval X = x' at hx'
      generalize hg : (Value.func (.yield zz) ⟨xs⟩ ⟨[]⟩) = g at hx'
      cases hx' <;> first | (cases hg; done) | skip
      rename_i xs' ys r o k hfz hk hv
      have hxs : xs' = xs := by injection hg with _ e _; injection e with e; exact e.symm
      subst hxs
      cases ha : i.d.agg with
      | true =>
        obtain ⟨h1, h2⟩ := loadFrom_agg ha h
        subst h2
        rw [List.drop_zero, Nat.zero_add] at *
        refine ⟨.agg ((ys.drop k).take i.size).toArray, .agg ?_, fun o' ho w' hw => ?_⟩
        · have := hv.take i.size
          rwa [List.take_take, Nat.min_eq_left h1] at this
        · have hfz' := (hR.froz _ _ _ hfz).1.of (hw.fz _ _ _ hfz)
          have h4 := hfz'.cells (P := P) k i.size (by omega)
          simp [execOp, ho, hz, Instr.loadAt, Instr.sureAddr, loadVar, hT.isAgg hi w', ha, hT.sizeOf hi w', h4]
      | false =>
        obtain ⟨h1, h2⟩ := loadFrom_one ha h
        obtain ⟨y, h5, h6⟩ := hv.get 0 h2
        refine ⟨y, h6, fun o' ho w' hw => ?_⟩
        have hfz' := (hR.froz _ _ _ hfz).1.of (hw.fz _ _ _ hfz)
        have h4 := hfz'.cells (P := P) k 1 (by omega)
        have e1 : (ys.drop k).take 1 = [y] := by
          rw [List.getElem?_take_of_lt h1] at h5
          cases hd : ys.drop k with
          | nil => rw [hd] at h5; cases h5
          | cons q l => rw [hd] at h5; simp at h5; simp [h5]
        rw [e1] at h4
        have h8 : (load ⟨r, o + k, none⟩).run P w' = .ok y w' := by
          simp only [loadCells, loadCellsFrom, Sem.run_bind, add_none, Nat.add_zero] at h4
          cases hl : (load ⟨r, o + k, none⟩ : Sem Value).run P w' with
          | ok z w2 => rw [hl] at h4; simp at h4; obtain ⟨rfl, rfl⟩ := h4; rfl
          | halt e w2 => rw [hl] at h4; simp at h4
        simp only [run_load] at h8
        simp only [execOp, ho, hz, Instr.loadAt, Instr.sureAddr, loadVar, Sem.run_bind, hT.isAgg hi w', ha, Sem.run_pure, Result.andThen_ok, Bool.false_eq_true, if_false, run_load, h8]
    · cases h
  · rename_i nm fv g
    split at h
    · rename_i i hi
      cases hb : (snts.contains g && !i.d.agg) with
      | false => rw [hb] at h; cases h
      | true =>
        rw [hb] at h
        cases h
        simp only [Bool.and_eq_true, Bool.not_eq_true', List.contains_iff_mem] at hb
        obtain ⟨hg0, ha⟩ := hb
        have hx' := arg_sound hF hx
        generalize hz : a.eval X = x' at hx'
        generalize hg : (Value.func (.methodOf 1 nm) fv ⟨[.pointer (some ⟨g, 0, none⟩)]⟩) = gv at hx'
        cases hx' <;> first | (cases hg; done) | skip
        injection hg with _ _ e; injection e with e; injection e with e; subst e
        obtain ⟨ad, h1, _⟩ := hR.gl.1
        have fact := (h1 g hg0).1
        refine ⟨.iface sntT (.pointer (some (ad g))), .iface (.sptr fact), fun o' ho w' hw => ?_⟩
        have h4 := ((hR.froz _ _ _ fact).1.of (hw.fz _ _ _ fact)).cells (P := P) 0 1 (by simp)
        have h8 : (load ⟨g, 0, none⟩).run P w' = .ok (.iface sntT (.pointer (some (ad g)))) w' := by
          simp only [loadCells, loadCellsFrom, Sem.run_bind, add_none, Nat.add_zero] at h4
          cases hl : (load ⟨g, 0, none⟩ : Sem Value).run P w' with
          | ok z w2 => rw [hl] at h4; simp at h4; obtain ⟨rfl, rfl⟩ := h4; rfl
          | halt e w2 => rw [hl] at h4; simp at h4
        simp only [run_load] at h8
        simp only [execOp, ho, hz, Instr.loadAt, Instr.sureAddr, loadVar, Sem.run_bind, hT.isAgg hi w', ha, Sem.run_pure, Result.andThen_ok, Bool.false_eq_true, if_false, run_load, h8]
    · cases h
  · cases h
end
end Go.Proofs.YtgkicojmgokinaaGreatDoor.Ab
namespace Go.Proofs.YtgkicojmgokinaaGreatDoor.Ab
open Go Go.RowKit
set_option linter.unusedVariables false
set_option linter.unusedSimpArgs false
section
variable {P : Program} {T : Tab} (hT : TabOK P T) {lo : Nat} {M : Mp} {H : Heap} {w : World} (hR : Rel lo M H w) {F : Fr} {a : Act} (hF : FR M F a.tmps) {v : Value}
theorem gs_inv {M : Mp} {z n : Nat} {xs : List Value} {k : IntKind} {x' : Value} (h : VR M (.func (.yield z) ⟨xs⟩ ⟨[.int k (.ofNat n)]⟩) x') :
    (xs = [] ∧ n = 0 ∧ x' = .slice none 0 0) ∨ (xs = [] ∧ n = 0 ∧ ∃ ad c, x' = .slice (some ad) 0 c) ∨
    ∃ ys r o j c, M.fz r o ys ∧ j + n * z ≤ ys.length ∧ n ≤ c ∧ xs.length = n * z ∧ VRs M xs ((ys.drop j).take (n * z)) ∧ x' = .slice (some ⟨r, o + j, none⟩) n c := by
  generalize hg : (Value.func (.yield z) ⟨xs⟩ ⟨[.int k (.ofNat n)]⟩) = g at h
  cases h <;> first | (cases hg; done) | skip
  case gsl xs' ys r o j n' c z' h1 h2 h3 h4 h5 =>
    simp only [gs, Value.func.injEq, Fn.yield.injEq, Array.mk.injEq, List.cons.injEq, Value.int.injEq, Int.ofNat.injEq, and_true] at hg
    obtain ⟨rfl, rfl, _, rfl⟩ := hg
    exact .inr (.inr ⟨ys, r, o, j, c, h1, h2, h3, h4, h5, rfl⟩)
  case gnil z' =>
    simp only [gs, Value.func.injEq, Fn.yield.injEq, Array.mk.injEq, List.cons.injEq, Value.int.injEq, Int.ofNat.injEq, and_true] at hg
    obtain ⟨rfl, rfl, _, rfl⟩ := hg
    exact .inl ⟨rfl, rfl, rfl⟩
  case gemp z' ad c =>
    simp only [gs, Value.func.injEq, Fn.yield.injEq, Array.mk.injEq, List.cons.injEq, Value.int.injEq, Int.ofNat.injEq, and_true] at hg
    obtain ⟨rfl, rfl, _, rfl⟩ := hg
    exact .inr (.inl ⟨rfl, rfl, _, _, rfl⟩)
theorem gp_inv {M : Mp} {z : Nat} {xs : List Value} {x' : Value} (h : VR M (.func (.yield z) ⟨xs⟩ ⟨[]⟩) x') :
    ∃ ys r o j, M.fz r o ys ∧ j + xs.length ≤ ys.length ∧ VRs M xs ((ys.drop j).take xs.length) ∧ x' = .pointer (some ⟨r, o + j, none⟩) := by
  generalize hg : (Value.func (.yield z) ⟨xs⟩ ⟨[]⟩) = g at h
  cases h <;> first | (cases hg; done) | skip
  case gptr xs' ys r o j h1 h2 h3 =>
    simp only [gp, Value.func.injEq, Array.mk.injEq, and_true] at hg
    obtain ⟨_, rfl⟩ := hg
    exact ⟨ys, r, o, j, h1, h2, h3, rfl⟩
theorem drop_take_part {α : Type} (l : List α) (j N d n : Nat) (h : d + n ≤ N) : (((l.drop j).take N).drop d).take n = (l.drop (j + d)).take n := by
  rw [List.drop_take, List.take_take, List.drop_drop, Nat.min_eq_left (by omega)]
include hT hF in
theorem c_place {t : TypeId} {X I : Operand} {x : Value} {kk : IntKind} {k : Int} (hi : arg F I = some (.int kk k)) (hx : arg F X = some x) (h : placeG T t x k = some (true, v)) : Quiet P w M H a.eval (.indexAddr t X I) v := by
  have hx' := arg_sound hF hx
  have hi' := arg_sound hF hi
  generalize hz : a.eval X = x' at hx'
  generalize hzi : a.eval I = i' at hi'
  cases hi'
  unfold placeG at h
  split at h
  · rename_i z xs _ n
    split at h
    · rename_i e _ _ _ ht
      split at h
      · rename_i i he
        simp only [Option.some.injEq, Prod.mk.injEq, Bool.and_eq_true, decide_eq_true_eq] at h
        obtain ⟨⟨h0, h1, h2⟩, rfl⟩ := h
        obtain rfl : z = i.size := Nat.eq_of_beq_eq_true h2
        have h1 : k < (n : Int) := h1
        rcases gs_inv hx' with ⟨_, rfl, _⟩ | ⟨_, rfl, _⟩ | ⟨ys, r, o, j, c, g1, g2, g3, g4, g5, rfl⟩
        · omega
        · omega
        · have hkn : k.toNat < n := by omega
          have hle : k.toNat * i.size + (n * i.size - k.toNat * i.size) = n * i.size := by
            have := Nat.mul_le_mul_right i.size (Nat.le_of_lt hkn); omega
          refine ⟨.pointer (some ⟨r, o + (j + k.toNat * i.size), none⟩), .gptr g1 ?_ ?_, fun o' ho w' _ => ?_⟩
          · rw [List.length_drop, g4]; omega
          · have := g5.drop (k.toNat * i.size)
            rw [List.length_drop, g4]
            rw [List.drop_take, List.drop_drop] at this
            exact this
          · obtain ⟨d, h3, h4, h5⟩ := hT.und ht w'
            have := und_slice h5; subst this
            have hsz := hT.sizeOf he w'
            have hk : 0 ≤ k ∧ k < (n : Int) := ⟨h0, h1⟩
            simp [execOp, ho, hz, hzi, Instr.indexAt, asIntOf, h3, Instr.sureAddr, hk, hsz, add_none, Nat.add_assoc]
      · cases h
    · cases h
  · rename_i z xs
    split at h
    · rename_i n e _ _ _ ht
      split at h
      · rename_i i he
        simp only [Option.some.injEq, Prod.mk.injEq, Bool.and_eq_true, decide_eq_true_eq] at h
        obtain ⟨⟨h0, h1, h2⟩, rfl⟩ := h
        have h2 := Nat.le_of_ble_eq_true h2
        have h1 : k < (n : Int) := h1
        obtain ⟨ys, r, o, j, g1, g2, g3, rfl⟩ := gp_inv hx'
        refine ⟨.pointer (some ⟨r, o + (j + k.toNat * i.size), none⟩), .gptr g1 ?_ ?_, fun o' ho w' _ => ?_⟩
        · rw [List.length_drop]; omega
        · have := g3.drop (k.toNat * i.size)
          rw [List.drop_take, List.drop_drop] at this
          rw [List.length_drop]; exact this
        · obtain ⟨d, h3, h4, h5⟩ := hT.und ht w'
          have := und_array h5; subst this
          have hsz := hT.sizeOf he w'
          have hk : 0 ≤ k ∧ k < (n : Int) := ⟨h0, h1⟩
          simp [execOp, ho, hz, hzi, Instr.indexAt, asIntOf, h3, Instr.sureAddr, hk, hsz, add_none, Nat.add_assoc]
      · cases h
    · cases h
  · cases h
include hT hF in
theorem c_fieldAddr {t : TypeId} {X : Operand} {x : Value} {f : Nat} (hx : arg F X = some x) (h : fieldG T t x f = some (true, v)) : Quiet P w M H a.eval (.fieldAddr t X f) v := by
  unfold fieldG at h
  split at h
  · rename_i z xs
    have hx' := arg_sound hF hx
    generalize hz : a.eval X = x' at hx'
    split at h
    · rename_i fs _ _ _ hi
      split at h
      · rename_i off ft hf
        split at h
        · rename_i i hft
          simp only [Option.some.injEq, Prod.mk.injEq, Bool.and_eq_true, Bool.not_eq_true'] at h
          obtain ⟨⟨h0, h1⟩, rfl⟩ := h
          have h0 : ¬ i.size = 0 := fun e => by rw [e] at h0; cases h0
          have h1 := Nat.le_of_ble_eq_true h1
          obtain ⟨ys, r, o, j, g1, g2, g3, rfl⟩ := gp_inv hx'
          refine ⟨.pointer (some ⟨r, o + (j + off), none⟩), .gptr g1 ?_ ?_, fun o' ho w' _ => ?_⟩
          · rw [List.length_drop]; omega
          · have := g3.drop off
            rw [List.drop_take, List.drop_drop] at this
            rw [List.length_drop]; exact this
          · obtain ⟨d, h3, h4, h5⟩ := hT.und hi w'
            obtain ⟨gs, rfl, hg⟩ := und_struct h5
            have hsz := hT.sizeOf hft w'
            rw [← hg] at hf
            simp only [List.getElem?_map, Option.map_eq_some_iff] at hf
            obtain ⟨g, hg1, hg2⟩ := hf
            simp only [Prod.mk.injEq] at hg2
            obtain ⟨rfl, rfl⟩ := hg2
            have hg1' : gs[f]? = some g := by simpa using hg1
            simp [execOp, ho, hz, Instr.fieldAt, h3, hg1', Instr.sureAddr, fieldPlace, hsz, h0, add_none, Nat.add_assoc]
        · cases h
      · cases h
    · cases h
  · split at h
    · rename_i hv; cases h; exact q_fieldAddr hT hF hx hv
    · cases h
theorem boundC_A {F : Fr} {x : Option Operand} {d k : Nat} (h : boundC F x d = some (true, k)) : boundA F x d = some k := by
  unfold boundC at h
  unfold boundA
  split at h
  · cases h; rfl
  · rename_i a
    split at h
    · rename_i kk n hx
      simp only [Option.some.injEq, Prod.mk.injEq, decide_eq_true_eq] at h
      simp only [hx, if_pos h.1, h.2]
    · cases h
include hT hR hF in
theorem c_slice {t : TypeId} {X : Operand} {x : Value} {l h : Option Operand} (hx : arg F X = some x) (hs : sliceG T H F t x l h = some (true, v)) : Quiet P w M H a.eval (.slice t X l h none) v := by
  unfold sliceG at hs
  split at hs
  · rename_i s
    split at hs
    · rename_i _ _ _ g1 ll g2 hh ht hl hh'
      simp only [Option.some.injEq, Prod.mk.injEq, Bool.and_eq_true] at hs
      obtain ⟨⟨rfl, rfl, h1, h2⟩, rfl⟩ := hs
      exact q_slice hT hR hF hx (by simp only [sliceA, ht, boundC_A hl, boundC_A hh', if_pos (And.intro (Nat.le_of_ble_eq_true h1) (Nat.le_of_ble_eq_true h2))])
    · cases hs
  · rename_i z xs _ n
    have hx' := arg_sound hF hx
    generalize hz : a.eval X = x' at hx'
    split at hs
    · rename_i e _ _ _ g1 ll g2 hh ht hl hh'
      split at hs
      · rename_i i he
        simp only [Option.some.injEq, Prod.mk.injEq, Bool.and_eq_true] at hs
        obtain ⟨⟨rfl, rfl, h1, h2, h3⟩, rfl⟩ := hs
        have h1 := Nat.le_of_ble_eq_true h1
        have h2 := Nat.le_of_ble_eq_true h2
        obtain rfl : z = i.size := Nat.eq_of_beq_eq_true h3
        have hl := boundC_A hl
        have hh' := boundC_A hh'
        rcases gs_inv hx' with ⟨rfl, rfl, rfl⟩ | ⟨rfl, rfl, ad, c, rfl⟩ | ⟨ys, r, o, j, c, f1, f2, f3, f4, f5, rfl⟩
        · obtain rfl : hh = 0 := by omega
          obtain rfl : ll = 0 := by omega
          refine ⟨.slice none 0 0, by simpa using VR.gnil _, fun o' ho w' _ => ?_⟩
          obtain ⟨d, k1, k2, k3⟩ := hT.und ht w'
          have := und_slice k3; subst this
          have hbb := bounds_run (P := P) hF hl hh' (Nat.le_refl 0) (Nat.le_refl 0) true w'
          simp [execOp, ho, hz, Instr.sliceAt, k1, Instr.slice, hbb, hT.sizeOf he w']
        · obtain rfl : hh = 0 := by omega
          obtain rfl : ll = 0 := by omega
          refine ⟨.slice (if c = 0 then some ad else some (ad.add (0 * i.size))) (0 - 0) (c - 0), by split <;> simpa using VR.gemp _ _ _, fun o' ho w' _ => ?_⟩
          obtain ⟨d, k1, k2, k3⟩ := hT.und ht w'
          have := und_slice k3; subst this
          have hbb := bounds_run (P := P) hF hl hh' (Nat.le_refl 0) (Nat.zero_le c) true w'
          simp only [execOp, ho, hz, Instr.sliceAt, k1, Instr.slice, hbb, hT.sizeOf he w', Sem.run_bind, Sem.run_pure, Result.andThen_ok, Option.map_some, Option.map_none]
        · rcases Nat.eq_or_lt_of_le h1 with h12 | h12
          · subst h12
            refine ⟨.slice (if c = ll then some ⟨r, o + j, none⟩ else some (Addr.add ⟨r, o + j, none⟩ (ll * i.size))) (ll - ll) (c - ll), by rw [Nat.sub_self, Nat.zero_mul, List.take_zero]; split <;> exact .gemp _ _ _, fun o' ho w' _ => ?_⟩
            obtain ⟨d, k1, k2, k3⟩ := hT.und ht w'
            have := und_slice k3; subst this
            have hbb : (Instr.sliceBounds true n c (l.map a.eval) (h.map a.eval) none).run P w' = .ok (ll, ll, c) w' := bounds_run (P := P) hF hl hh' (Nat.le_refl ll) (by omega : ll ≤ c) true w'
            simp only [execOp, ho, hz, Instr.sliceAt, k1, Instr.slice, hbb, hT.sizeOf he w', Sem.run_bind, Sem.run_pure, Result.andThen_ok, Option.map_some, Option.map_none]
          · have hcl : c ≠ ll := by omega
            have m1 : ll * i.size + (hh - ll) * i.size ≤ n * i.size := by rw [← Nat.add_mul]; exact Nat.mul_le_mul_right _ (by omega)
            refine ⟨.slice (some ⟨r, o + (j + ll * i.size), none⟩) (hh - ll) (c - ll), .gsl f1 (by omega) (by omega) (by rw [List.length_take, List.length_drop, f4]; omega) ?_, fun o' ho w' _ => ?_⟩
            · have := (f5.drop (ll * i.size)).take ((hh - ll) * i.size)
              rwa [drop_take_part _ _ _ _ _ m1] at this
            · obtain ⟨d, k1, k2, k3⟩ := hT.und ht w'
              have := und_slice k3; subst this
              have hbb : (Instr.sliceBounds true n c (l.map a.eval) (h.map a.eval) none).run P w' = .ok (ll, hh, c) w' := bounds_run (P := P) hF hl hh' h1 (by omega : hh ≤ c) true w'
              simp only [execOp, ho, hz, Instr.sliceAt, k1, Instr.slice, hbb, hT.sizeOf he w', Sem.run_bind, Sem.run_pure, Result.andThen_ok, Option.map_some, Option.map_none, if_neg hcl, add_none, Nat.add_assoc]
      · cases hs
    · cases hs
  · split at hs
    · rename_i hv; cases hs; exact q_slice hT hR hF hx hv
    · cases hs
theorem loadFrom_part {P : Program} {T : Tab} (hT : TabOK P T) {M : Mp} {t : TypeId} {i : TI} (hi : T t = some i) {cs cs' : List Value} {off : Nat} {v : Value} (hc : VRs M cs cs') (h : loadFrom i cs off = (true, v)) :
    ∃ v', VR M v v' ∧ ∀ w, (part t cs'.toArray off).run P w = .ok v' w := by
  refine partA_sound hT hc ?_
  cases ha : i.d.agg with
  | true => simp only [partA, hi, ha, cond_true, (loadFrom_agg ha h).2]
  | false => simp only [partA, hi, ha, cond_false, (loadFrom_one ha h).2]
include hT hF in
theorem c_index {t : TypeId} {X I : Operand} {x : Value} {kk : IntKind} {k : Int} (hi : arg F I = some (.int kk k)) (hx : arg F X = some x) (h : indexG T t x k = some (true, v)) : Quiet P w M H a.eval (.index t X I) v := by
  have hx' := arg_sound hF hx
  have hi' := arg_sound hF hi
  generalize hz : a.eval X = x' at hx'
  generalize hzi : a.eval I = i' at hi'
  cases hi'
  unfold indexG at h
  split at h
  · rename_i cs
    split at h
    · rename_i n e _ _ _ ht
      split at h
      · rename_i i he
        generalize hlf : loadFrom i cs.toList (k.toNat * i.size) = gv at h
        obtain ⟨g, v0⟩ := gv
        simp only [Option.some.injEq, Prod.mk.injEq, Bool.and_eq_true, decide_eq_true_eq] at h
        obtain ⟨⟨h0, h1, rfl⟩, rfl⟩ := h
        have hk : 0 ≤ k ∧ k < (n : Int) := ⟨h0, h1⟩
        cases hx' with
        | agg ax =>
        obtain ⟨v', h1, h2⟩ := loadFrom_part hT he ax hlf
        refine ⟨v', h1, fun o ho w' _ => ?_⟩
        obtain ⟨d, h3, h4, h5⟩ := hT.und ht w'
        have := und_array h5; subst this
        have hsz := hT.sizeOf he w'
        simp [execOp, ho, hz, hzi, Instr.index, asIntOf, h3, hk, hsz, h2]
      · cases h
    · cases h
  · rename_i s
    split at h
    · rename_i _ _ _ ht
      simp only [Option.some.injEq, Prod.mk.injEq, Bool.and_eq_true, decide_eq_true_eq] at h
      obtain ⟨⟨h0, h1⟩, rfl⟩ := h
      cases hx'
      have h1 : k.toNat < s.size := by simpa [Nat.blt_eq] using h1
      refine ⟨_, plain_VR rfl, fun o ho w' _ => ?_⟩
      obtain ⟨d, h3, h4, h5⟩ := hT.und ht w'
      have := und_str h5; subst this
      have hb : s[k.toNat]? = some s[k.toNat] := by rw [getElem?_pos s k.toNat h1]
      simp [execOp, ho, hz, hzi, Instr.index, asIntOf, h3, h0, hb, byteAt]
    · cases h
  · cases h
include hT hF in
theorem c_field {t : TypeId} {X : Operand} {cs : Array Value} {f : Nat} {fs : List (Nat × TypeId)} {s b : Nat} {z : Value} {off : Nat} {ft : TypeId} (ht : T t = some ⟨.struct fs, s, b, z⟩) (hx : arg F X = some (.agg cs)) (hf : fs[f]? = some (off, ft)) (h : partG T ft cs.toList off = some (true, v)) :
    Quiet P w M H a.eval (.field t X f) v := by
  unfold partG at h
  split at h
  · rename_i i hi
    simp only [Option.some.injEq] at h
    refine q_field hT hF ht hx hf ?_
    cases ha : i.d.agg with
    | true => simp only [partA, hi, ha, cond_true, (loadFrom_agg ha h).2]
    | false => simp only [partA, hi, ha, cond_false, (loadFrom_one ha h).2]
  · cases h
include hT hF in
theorem c_len {args : Array Operand} {tys : Array TypeId} {t : TypeId} {ts : List TypeId} {x : Value} {xs : List Value} (ht : tys.toList = t :: ts) (hl : argsA F args.toList = some (x :: xs)) (h : lenG T t x = some (true, v)) : Quiet P w M H a.eval (.call ⟨.builtin .len, args, tys⟩) v := by
  unfold lenG at h
  split at h
  · rename_i e _ _ _ hte
    simp only [Option.some.injEq, Prod.mk.injEq] at h
    obtain ⟨h0, rfl⟩ := h
    unfold isLen at h0
    split at h0
    · rename_i z ys k m
      show Quiet P w M H a.eval (.call ⟨.builtin .len, args, tys⟩) (.int .i64 m)
      have hv := argsA_sound hF _ _ hl
      have e1 : args.map a.eval = (args.toList.map a.eval).toArray := by rw [← List.map_toArray, Array.toArray_toList]
      generalize args.toList.map a.eval = l' at hv e1
      cases hv with
      | @cons _ x' _ xs' hx hxs =>
      have et : tys[0]? = some t := by rw [← Array.getElem?_toList, ht]; rfl
      have hsl : ∃ ad c n, m = Int.ofNat n ∧ x' = .slice ad n c := by
        generalize hg : (Value.func (.yield z) ys ⟨[.int k m]⟩) = g at hx
        cases hx <;> first | (cases hg; done) | skip
        all_goals
          simp only [gs, Value.func.injEq, Fn.yield.injEq, Array.mk.injEq, List.cons.injEq, Value.int.injEq, and_true] at hg
          obtain ⟨_, _, _, rfl⟩ := hg
          exact ⟨_, _, _, rfl, rfl⟩
      obtain ⟨ad, c, n, rfl, rfl⟩ := hsl
      refine ⟨_, plain_VR rfl, fun o ho w' _ => ?_⟩
      obtain ⟨d, h1, h2, h3⟩ := hT.und hte w'
      have := und_slice h3; subst this
      have key : (Builtin.len_ tys o.type (Value.slice ad n c :: xs').toArray).run P w' = .ok (.int .i64 (Int.ofNat n)) w' := by simp [Builtin.len_, et, h1, goInt]
      simp only [execOp, ho, resolve, e1, invoke, builtin, Sem.run_bind, Sem.run_pure, Result.andThen_ok, key]
    · exact q_builtin hT hF hl (by simp only [builtA, ht, lenA, hte]; rfl)
    · cases h0
  · split at h
    · rename_i hv
      cases h
      exact q_builtin hT hF hl (by simp only [builtA, ht, hv])
    · cases h
end
end Go.Proofs.YtgkicojmgokinaaGreatDoor.Ab
