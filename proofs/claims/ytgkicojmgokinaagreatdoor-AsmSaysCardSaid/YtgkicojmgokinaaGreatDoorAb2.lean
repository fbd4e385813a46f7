/- Trimmed: Ab2 -/
import Derived.Test.YtgkicojmgokinaaGreatDoorAb1
import Derived.WalkSpells
namespace Go.Proofs.YtgkicojmgokinaaGreatDoor.Ab
open Go Go.RowKit
set_option linter.unusedVariables false
set_option linter.unusedSimpArgs false
inductive TD where
  | bool | int (k : IntKind) | str | ptr (e : TypeId) | slice (e : TypeId) | array (n : Nat) (e : TypeId) | struct (fs : List (Nat × TypeId)) | iface | func | other
structure TI where
  d : TD
  size : Nat
  bytes : Nat
  zero : Value
def TD.agg : TD → Bool
  | .array _ _ | .struct _ => true
  | _ => false
def tdOf : TypeDesc → TD
  | .bool => .bool | .int k => .int k | .string => .str | .pointer e => .ptr e | .slice e => .slice e | .array n e => .array n e
  | .struct fs => .struct (fs.toList.map fun f => (f.offset, f.type)) | .interface _ => .iface | .func _ _ _ => .func | _ => .other
def cmpB (i : TypeInfo) (d : TypeDesc) : Bool := match d with
  | .pointer _ => i.comparable
  | _ => true
def tiOf (P : Program) (t : TypeId) : Option TI :=
  match P.info? t, P.underlying t with
  | some i, some d => match i.zero with
    | some z => bif plain z && cmpB i d then some ⟨tdOf d, i.size, i.bytes, z⟩ else none
    | none => none
  | _, _ => none
abbrev Tab := TypeId → Option TI
def TabOK (P : Program) (T : Tab) : Prop := ∀ t i, T t = some i → tiOf P t = some i
section
variable {P : Program} {T : Tab} (hT : TabOK P T)
include hT
theorem TabOK.get {t : TypeId} {i : TI} (h : T t = some i) : ∃ info d, P.info? t = some info ∧ P.underlying t = some d ∧ tdOf d = i.d ∧ info.size = i.size ∧ info.bytes = i.bytes ∧ info.zero = some i.zero ∧ plain i.zero = true := by
  have h := hT t i h
  unfold tiOf at h
  split at h
  · rename_i info d hi hu
    split at h
    · rename_i z hz
      cases hp : (plain z && cmpB info d) with
      | true => rw [hp] at h; cases h; rw [Bool.and_eq_true] at hp; exact ⟨info, d, hi, hu, rfl, rfl, rfl, hz, hp.1⟩
      | false => rw [hp] at h; cases h
    · cases h
  · cases h
theorem TabOK.ptr {t : TypeId} {i : TI} {e : TypeId} (h : T t = some i) (he : i.d = .ptr e) : ∃ info, P.info? t = some info ∧ P.underlying t = some (.pointer e) ∧ info.comparable = true := by
  have h := hT t i h
  unfold tiOf at h
  split at h
  · rename_i info d hi hu
    split at h
    · rename_i z hz
      cases hp : (plain z && cmpB info d) with
      | true =>
        rw [hp] at h; cases h; rw [Bool.and_eq_true] at hp
        cases d <;> simp [tdOf] at he
        subst he
        exact ⟨info, hi, hu, hp.2⟩
      | false => rw [hp] at h; cases h
    · cases h
  · cases h
theorem TabOK.sizeOf {t : TypeId} {i : TI} (h : T t = some i) (w : World) : (Go.sizeOf t).run P w = .ok i.size w := by
  obtain ⟨info, d, hi, hu, hd, hs, hb, hz, hp⟩ := hT.get h
  simp [Go.sizeOf, typeInfo, hi, hs]
theorem TabOK.typeInfo {t : TypeId} {i : TI} (h : T t = some i) (w : World) : ∃ info, (Go.typeInfo t).run P w = .ok info w ∧ info.size = i.size ∧ info.bytes = i.bytes := by
  obtain ⟨info, d, hi, hu, hd, hs, hb, hz, hp⟩ := hT.get h
  exact ⟨info, by simp [Go.typeInfo, hi], hs, hb⟩
theorem TabOK.zeroValue {t : TypeId} {i : TI} (h : T t = some i) (w : World) : (Go.zeroValue t).run P w = .ok i.zero w := by
  obtain ⟨info, d, hi, hu, hd, hs, hb, hz, hp⟩ := hT.get h
  simp [Go.zeroValue, Go.typeInfo, hi, hz]
theorem TabOK.und {t : TypeId} {i : TI} (h : T t = some i) (w : World) : ∃ d, (Go.underlying t).run P w = .ok d w ∧ P.underlying t = some d ∧ tdOf d = i.d := by
  obtain ⟨info, d, hi, hu, hd, hs, hb, hz, hp⟩ := hT.get h
  exact ⟨d, run_underlying hu w, hu, hd⟩
theorem TabOK.isAgg {t : TypeId} {i : TI} (h : T t = some i) (w : World) : (Go.isAgg t).run P w = .ok i.d.agg w := by
  obtain ⟨d, h1, h2, h3⟩ := hT.und h w
  rw [← h3]
  cases d <;> simp [Go.isAgg, h1, tdOf, TD.agg]
end
theorem und_array {d : TypeDesc} {n : Nat} {e : TypeId} (h : tdOf d = .array n e) : d = .array n e := by cases d <;> simp [tdOf] at h; simp [h]
theorem und_slice {d : TypeDesc} {e : TypeId} (h : tdOf d = .slice e) : d = .slice e := by cases d <;> simp [tdOf] at h; simp [h]
theorem und_ptr {d : TypeDesc} {e : TypeId} (h : tdOf d = .ptr e) : d = .pointer e := by cases d <;> simp [tdOf] at h; simp [h]
theorem und_bool {d : TypeDesc} (h : tdOf d = .bool) : d = .bool := by cases d <;> simp [tdOf] at h; rfl
theorem und_int {d : TypeDesc} {k : IntKind} (h : tdOf d = .int k) : d = .int k := by cases d <;> simp [tdOf] at h; simp [h]
theorem und_str {d : TypeDesc} (h : tdOf d = .str) : d = .string := by cases d <;> simp [tdOf] at h; rfl
theorem und_struct {d : TypeDesc} {fs : List (Nat × TypeId)} (h : tdOf d = .struct fs) : ∃ gs, d = .struct gs ∧ gs.toList.map (fun f => (f.offset, f.type)) = fs := by
  cases d <;> simp [tdOf] at h; exact ⟨_, rfl, h⟩
theorem und_iface {d : TypeDesc} (h : tdOf d = .iface) : ∃ ms, d = .interface ms := by cases d <;> simp [tdOf] at h; exact ⟨_, rfl⟩
theorem add_none (r o n : Nat) : (⟨r, o, none⟩ : Addr).add n = ⟨r, o + n, none⟩ := by unfold Addr.add; split <;> simp_all
def partA (T : Tab) (t : TypeId) (cs : List Value) (off : Nat) : Option Value :=
  match T t with
  | some i => bif i.d.agg then some (.agg ((cs.drop off).take i.size).toArray) else cs[off]?
  | none => none
theorem partA_sound {P : Program} {T : Tab} (hT : TabOK P T) {M : Mp} {t : TypeId} {cs cs' : List Value} {off : Nat} {v : Value} (hc : VRs M cs cs') (h : partA T t cs off = some v) :
    ∃ v', VR M v v' ∧ ∀ w, (part t cs'.toArray off).run P w = .ok v' w := by
  unfold partA at h
  split at h
  · rename_i i hi
    cases ha : i.d.agg with
    | true =>
      rw [ha] at h
      simp only [cond_true, Option.some.injEq] at h
      subst h
      refine ⟨_, .agg ((hc.drop off).take i.size), fun w => ?_⟩
      have h1 := hT.isAgg hi w
      have h2 := hT.sizeOf hi w
      have h3 : List.extract cs' off (off + i.size) = List.take i.size (List.drop off cs') := by simp [List.extract]
      simp [part, h1, h2, ha, h3]
    | false =>
      rw [ha] at h
      simp only [cond_false] at h
      obtain ⟨y, h3, h4⟩ := hc.get off h
      refine ⟨y, h4, fun w => ?_⟩
      have h1 := hT.isAgg hi w
      simp [part, h1, ha, h3]
  · cases h
def intOp (op : BinOp) (k : IntKind) (x y : Int) : Option Value :=
  match op with
  | .add => some (.int k (k.wrap (x + y)))
  | .sub => some (.int k (k.wrap (x - y)))
  | .mul => some (.int k (k.wrap (x * y)))
  | .quo => if y = 0 then none else some (.int k (k.wrap (x.tdiv y)))
  | .rem => if y = 0 then none else some (.int k (x.tmod y))
  | .and => some (.int k (bits .and k x y))
  | .or => some (.int k (bits .or k x y))
  | .xor => some (.int k (bits .xor k x y))
  | .andNot => some (.int k (bits .andNot k x y))
  | .eql => some (.bool (x == y))
  | .neq => some (.bool (x != y))
  | .lss => some (.bool (decide (x < y)))
  | .leq => some (.bool (decide (x ≤ y)))
  | .gtr => some (.bool (decide (x > y)))
  | .geq => some (.bool (decide (x ≥ y)))
  | .shl | .shr => none
def shiftOp (op : BinOp) (k : IntKind) (x y : Int) : Option Value :=
  if y < 0 then none else
  match op with
  | .shl => some (.int k (k.wrap (x * 2 ^ (min y.toNat k.bits))))
  | .shr => some (.int k (x.fdiv (2 ^ (min y.toNat k.bits))))
  | _ => none
def strOp (op : BinOp) (x y : ByteArray) : Option Value :=
  match op with
  | .add => if x.size + y.size < 4611686018427387904 then some (.string (x ++ y)) else none
  | .eql => some (.bool (x.toList == y.toList))
  | .neq => some (.bool (!(x.toList == y.toList)))
  | .lss => some (.bool (Op.bytesLess x.toList y.toList))
  | .leq => some (.bool (Op.bytesLess x.toList y.toList || x.toList == y.toList))
  | .gtr => some (.bool !(Op.bytesLess x.toList y.toList || x.toList == y.toList))
  | .geq => some (.bool !(Op.bytesLess x.toList y.toList))
  | _ => none
def eqOp (op : BinOp) (b : Bool) : Option Value :=
  match op with
  | .eql => some (.bool b)
  | .neq => some (.bool !b)
  | _ => none
def allKind (k : IntKind) : List Value → Bool
  | [] => true
  | .int k' _ :: r => k == k' && allKind k r
  | _ :: _ => false
def eqInts : List Value → List Value → Bool
  | .int _ a :: r, .int _ b :: s => a == b && eqInts r s
  | [], [] => true
  | _, _ => false
def eqA (T : Tab) (t : TypeId) (lit : Bool) (x y : Value) : Option Bool :=
  match x, y with
  | .bool a, .bool b => match T t with
    | some ⟨.bool, _, _, _⟩ => some (a == b)
    | _ => none
  | .pointer none, .pointer b => match T t with
    | some ⟨.ptr _, _, _, _⟩ => some b.isNone
    | _ => none
  | .pointer (some _), .pointer none => match T t with
    | some ⟨.ptr _, _, _, _⟩ => some false
    | _ => none
  | .slice none _ _, .slice b _ _ => match T t with
    | some ⟨.slice _, _, _, _⟩ => some b.isNone
    | _ => none
  | .slice (some _) _ _, .slice none _ _ => match T t with
    | some ⟨.slice _, _, _, _⟩ => some false
    | _ => none
  | .nilIface, .nilIface => match T t, lit with
    | some ⟨.iface, _, _, _⟩, true => some true
    | _, _ => none
  | .nilIface, .iface _ _ => match T t with
    | some ⟨.iface, _, _, _⟩ => some false
    | _ => none
  | .iface _ _, .nilIface => match T t with
    | some ⟨.iface, _, _, _⟩ => some false
    | _ => none
  | .agg xs, .agg ys => match T t with
    | some ⟨.array n e, _, _, _⟩ => match T e with
      | some ⟨.int k, 1, _, _⟩ => if xs.toList.length = n ∧ ys.toList.length = n ∧ allKind k xs.toList = true ∧ allKind k ys.toList = true then some (eqInts xs.toList ys.toList) else none
      | _ => none
    | _ => none
  | _, _ => none
def binA (T : Tab) (op : BinOp) (t : TypeId) (lit : Bool) (x y : Value) : Option Value :=
  match x, y with
  | .int k a, .int k' b => match op with
    | .shl | .shr => shiftOp op k a b
    | _ => if k = k' then intOp op k a b else none
  | .string a, .string b => strOp op a b
  | x, y => match eqA T t lit x y with
    | some b => eqOp op b
    | none => none
theorem allKind_get {k : IntKind} {xs : List Value} (h : allKind k xs = true) (i : Nat) (hi : i < xs.length) : ∃ n, xs[i]? = some (.int k n) := by
  induction xs generalizing i with
  | nil => simp at hi
  | cons x xs ih =>
    cases x <;> simp [allKind] at h
    obtain ⟨rfl, h⟩ := h
    cases i with
    | zero => exact ⟨_, rfl⟩
    | succ i => simpa using ih h i (by simpa using hi)
theorem allKind_VRs {M : Mp} {k : IntKind} {xs ys : List Value} (h : allKind k xs = true) (r : VRs M xs ys) : ys = xs := by
  induction xs generalizing ys with
  | nil => cases r; rfl
  | cons x xs ih =>
    cases x <;> simp [allKind] at h
    cases r with | cons a b => cases a; rw [ih h.2 b]
theorem eqItems_ints {P : Program} {e : TypeId} {k : IntKind} (hu : P.underlying e = some (.int k)) (d : Nat) (X Y : List Value) (hX : allKind k X = true) (hY : allKind k Y = true) (w : World) :
    ∀ (m : Nat) (xs ys : List Value) (l : List Nat), X.length - m = xs.length → X.drop m = xs → Y.drop m = ys → xs.length = ys.length → l = List.range' m xs.length → m + xs.length ≤ X.length →
      (Op.eqItems (d + 1) e 1 X.toArray Y.toArray l).run P w = .ok (eqInts xs ys) w := by
  intro m xs
  induction xs generalizing m with
  | nil =>
    intro ys l _ _ _ hl he _
    cases ys with
    | nil => subst he; simp [Op.eqItems, eqInts]
    | cons _ _ => simp at hl
  | cons x xs ih =>
    intro ys l h0 hx hy hl he hm
    cases ys with
    | nil => simp at hl
    | cons y ys =>
      have gx : X[m]? = some x := by have := congrArg (·[0]?) hx; simpa using this
      have gy : Y[m]? = some y := by have := congrArg (·[0]?) hy; simpa using this
      have lx : m < X.length := by rw [List.getElem?_eq_some_iff] at gx; exact gx.1
      have ly : m < Y.length := by rw [List.getElem?_eq_some_iff] at gy; exact gy.1
      obtain ⟨a, ea⟩ := allKind_get hX m lx
      obtain ⟨b, eb⟩ := allKind_get hY m ly
      rw [gx] at ea; cases ea
      rw [gy] at eb; cases eb
      have hx' : X.drop (m + 1) = xs := by have := congrArg (List.drop 1) hx; simpa [List.drop_drop] using this
      have hy' : Y.drop (m + 1) = ys := by have := congrArg (List.drop 1) hy; simpa [List.drop_drop] using this
      have hr := ih (m + 1) ys (List.range' (m + 1) xs.length) (by simp at h0; omega) hx' hy' (by simpa using hl) rfl (by simp at hm; omega)
      subst he
      have p1 : (part e X.toArray (m * 1)).run P w = .ok (.int k a) w := by simp [part, Go.isAgg, run_underlying hu, gx]
      have p2 : (part e Y.toArray (m * 1)).run P w = .ok (.int k b) w := by simp [part, Go.isAgg, run_underlying hu, gy]
      have p3 : (Op.equalIn (d + 1) e (.int k a) (.int k b)).run P w = .ok (a == b) w := by simp [Op.equalIn, run_underlying hu]
      simp only [List.length_cons, List.range'_succ, Op.eqItems, Sem.run_bind, p1, p2, p3, Result.andThen_ok, eqInts]
      cases hab : (a == b) with
      | true => simpa [hab] using hr
      | false => simp [hab]
set_option maxHeartbeats 4000000 in
theorem eqA_sound' (D : Nat) {P : Program} {T : Tab} (hT : TabOK P T) {M : Mp} {op : BinOp} {t : TypeId} {X Y : Operand} {lit : Bool} {x y x' y' : Value} {b : Bool} (hx : VR M x x') (hy : VR M y y')
    (hlit : lit = (Region.isConst X || Region.isConst Y)) (h : eqA T t lit x y = some b) (w : World) : (eqGuard op t X Y x' y').run P w = .ok () w ∧ (Op.equalIn (D + 1 + 1) t x' y').run P w = .ok b w := by
  unfold eqA at h
  split at h
  · split at h
    · rename_i i hi
      cases h; cases hx; cases hy
      obtain ⟨d, h1, h2, h3⟩ := hT.und hi w
      have := und_bool h3; subst this
      exact ⟨by unfold eqGuard; cases op <;> rfl, by simp [Op.equalIn, h1]⟩
    · cases h
  · split at h
    · rename_i i hi
      cases h; cases hx
      obtain ⟨d, h1, h2, h3⟩ := hT.und hi w
      have := und_ptr h3; subst this
      cases hy
      · exact ⟨by unfold eqGuard; cases op <;> rfl, by simp [Op.equalIn, h1]⟩
      · exact ⟨by unfold eqGuard; cases op <;> rfl, by simp [Op.equalIn, h1]⟩
    · cases h
  · split at h
    · rename_i i hi
      cases h; cases hx; cases hy
      obtain ⟨d, h1, h2, h3⟩ := hT.und hi w
      have := und_ptr h3; subst this
      exact ⟨by unfold eqGuard; cases op <;> rfl, by simp [Op.equalIn, h1]⟩
    · cases h
  · split at h
    · rename_i i hi
      cases h; cases hx
      obtain ⟨d, h1, h2, h3⟩ := hT.und hi w
      have := und_slice h3; subst this
      cases hy <;> exact ⟨by unfold eqGuard; cases op <;> rfl, by simp [Op.equalIn, h1]⟩
    · cases h
  · split at h
    · rename_i i hi
      cases h
      obtain ⟨d, h1, h2, h3⟩ := hT.und hi w
      have := und_slice h3; subst this
      cases hx <;> cases hy <;> exact ⟨by unfold eqGuard; cases op <;> rfl, by simp [Op.equalIn, h1]⟩
    · cases h
  · split at h
    · rename_i i hi
      cases h; cases hx; cases hy
      obtain ⟨d, h1, h2, h3⟩ := hT.und hi w
      obtain ⟨ms, rfl⟩ := und_iface h3
      refine ⟨?_, by simp [Op.equalIn, h1]⟩
      cases X <;> cases Y <;> simp [Region.isConst] at hlit <;> (unfold eqGuard; cases op <;> rfl)
    · cases h
  · split at h
    · rename_i i hi
      cases h; cases hx; cases hy
      obtain ⟨d, h1, h2, h3⟩ := hT.und hi w
      obtain ⟨ms, rfl⟩ := und_iface h3
      exact ⟨by unfold eqGuard; cases op <;> rfl, by simp [Op.equalIn, h1]⟩
    · cases h
  · split at h
    · rename_i i hi
      cases h; cases hx; cases hy
      obtain ⟨d, h1, h2, h3⟩ := hT.und hi w
      obtain ⟨ms, rfl⟩ := und_iface h3
      exact ⟨by unfold eqGuard; cases op <;> rfl, by simp [Op.equalIn, h1]⟩
    · cases h
  · split at h
    · rename_i n e _ _ _ hi
      split at h
      · rename_i k _ _ he
        split at h
        · rename_i hc
          obtain ⟨c1, c2, c3, c4⟩ := hc
          cases h
          obtain ⟨info, d, hi1, hu, hd, hs, hb, hz, hp⟩ := hT.get hi
          obtain ⟨info', d', hi1', hu', hd', hs', hb', hz', hp'⟩ := hT.get he
          have := und_array hd; subst this
          have := und_int hd'; subst this
          cases hx with
          | agg ax =>
          cases hy with
          | agg ay =>
          rename_i ys ys' xs xs'
          have e1 := allKind_VRs c3 ax
          have e2 := allKind_VRs c4 ay
          simp only at e1 e2
          subst e1; subst e2
          refine ⟨?_, ?_⟩
          · have hg : P.eqGuardType P.depth t = false := by
              have : P.depth = (2 * (P.types.size + Made.depth)) + 1 + 1 := rfl
              rw [this]
              simp [Program.eqGuardType, hu, hu']
            cases op <;> simp [eqGuard, hg]
          · rw [run_equalIn_array w (D + 1) _ _ hu hi1']
            have hcell : P.cellsOf e = 1 := by simp [Program.cellsOf, hi1', hs']
            rw [hcell]
            simp only at c1 c2 c3 c4
            have := eqItems_ints hu' D _ _ c3 c4 w 0 _ _ (List.range' 0 n) (by simp) rfl rfl (by rw [List.drop_zero, List.drop_zero, c1, c2]) (by simp [c1]) (by simp)
            rw [List.range_eq_range']
            simpa using this
        · cases h
      · cases h
    · cases h
  · cases h
theorem eqA_sound {P : Program} {T : Tab} (hT : TabOK P T) {M : Mp} {op : BinOp} {t : TypeId} {X Y : Operand} {lit : Bool} {x y x' y' : Value} {b : Bool} (hx : VR M x x') (hy : VR M y y')
    (hlit : lit = (Region.isConst X || Region.isConst Y)) (h : eqA T t lit x y = some b) (w : World) : (eqGuard op t X Y x' y').run P w = .ok () w ∧ (Op.equal t x' y').run P w = .ok b w :=
  eqA_sound' 9998 hT hx hy hlit h w
end Go.Proofs.YtgkicojmgokinaaGreatDoor.Ab
