/- Trimmed: Ab3 -/
import Derived.Test.YtgkicojmgokinaaGreatDoorAb2
namespace Go.Proofs.YtgkicojmgokinaaGreatDoor.Ab
open Go Go.RowKit
set_option linter.unusedVariables false
set_option linter.unusedSimpArgs false
def argsA (F : Fr) : List Operand → Option (List Value)
  | [] => some []
  | x :: r => match arg F x with
    | some v => match argsA F r with
      | some l => some (v :: l)
      | none => none
    | none => none
theorem argsA_sound {M : Mp} {F : Fr} {a : Act} (hF : FR M F a.tmps) : ∀ (xs : List Operand) (l : List Value), argsA F xs = some l → VRs M l (xs.map a.eval)
  | [], l, h => by cases h; exact .nil
  | x :: r, l, h => by
    unfold argsA at h
    split at h
    · rename_i v hv
      split at h
      · rename_i l' hl
        cases h
        exact .cons (arg_sound hF hv) (argsA_sound hF r _ hl)
      · cases h
    · cases h
def cellsAt (H : Heap) (b o n : Nat) : Option (List Value) :=
  match H[b]? with
  | some (some k) => if o + n ≤ k.cells.length then some ((k.cells.drop o).take n) else none
  | _ => none
theorem cellsAt_list {lo : Nat} {M : Mp} {H : Heap} {w : World} (hR : Rel lo M H w) {b o n : Nat} {cs : List Value} (h : cellsAt H b o n = some cs) {r s N : Nat} (hM : M.pl[b]? = some (r, s, N)) :
    ∃ (c : List Value) (e : TypeId) (fz : Nat × Nat), w.heap[r]? = some (.cells c.toArray e fz) ∧ VRs M cs ((c.drop (s + o)).take n) ∧ ((c.drop (s + o)).take n).length = n ∧ s + o + n ≤ N := by
  unfold cellsAt at h
  split at h
  · rename_i k hk
    split at h
    · rename_i hl
      cases h
      obtain ⟨r', s', c, t, fz, h1, h2, _, h3, h4, _⟩ := hR.blk b k hk
      rw [h1] at hM
      cases hM
      refine ⟨c, _, _, h2, ?_, by simp; omega, by omega⟩
      have := (h4.drop o).take n
      rw [List.drop_take, List.take_take, List.drop_drop] at this
      rwa [show min n (k.cells.length - o) = n by omega] at this
    · cases h
  · cases h
theorem cellsAt_cells {lo : Nat} {M : Mp} {H : Heap} {w : World} (hR : Rel lo M H w) {b o n : Nat} {cs : List Value} (h : cellsAt H b o n = some cs) {r s N : Nat} (hM : M.pl[b]? = some (r, s, N)) :
    ∃ cs', VRs M cs cs' ∧ cs'.length = n ∧ s + o + n ≤ N ∧ ∀ w', Told M H w w' → ∀ j u, cs'[j]? = some u → w'.cell? ((⟨r, s + o, none⟩ : Addr).add j) = some u := by
  obtain ⟨c, e, fz, h1, h2, h3, h4⟩ := cellsAt_list hR h hM
  refine ⟨_, h2, h3, h4, fun w' hw j v hj => ?_⟩
  have hb : w'.heap[r]? = some (.cells c.toArray e fz) := by
    unfold cellsAt at h
    split at h
    · rename_i k hk; rw [hw.blk b k _ hk hM]; exact h1
    · cases h
  have hjn : j < n := by rw [List.getElem?_eq_some_iff] at hj; obtain ⟨hj, _⟩ := hj; rw [h3] at hj; exact hj
  rw [add_none]
  simp only [World.cell?, hb]
  simpa [List.getElem?_take, hjn, List.getElem?_drop] using hj
theorem cellsAt_real {P : Program} {lo : Nat} {M : Mp} {H : Heap} {w : World} (hR : Rel lo M H w) {b o n : Nat} {cs : List Value} (h : cellsAt H b o n = some cs) {r s N : Nat} (hM : M.pl[b]? = some (r, s, N)) :
    ∃ cs', VRs M cs cs' ∧ cs'.length = n ∧ s + o + n ≤ N ∧ ∀ w', Told M H w w' → (loadCells ⟨r, s + o, none⟩ n).run P w' = .ok cs'.toArray w' := by
  obtain ⟨cs', h1, h2, h3, h4⟩ := cellsAt_cells hR h hM
  refine ⟨cs', h1, h2, h3, fun w' hw => ?_⟩
  have := run_loadCells_list (P := P) w' ⟨r, s + o, none⟩ cs' (h4 w' hw)
  rwa [h2] at this
def unA (op : UnOp) (x : Value) : Option Value :=
  match op, x with
  | .neg, .int k n => some (.int k (k.wrap (0 - n)))
  | .xor, .int k n => some (.int k (bits .xor k (if k.signed then -1 else k.max) n))
  | .not, .bool b => some (.bool !b)
  | _, _ => none
def convA (T : Tab) (src dst : TypeId) (x : Value) : Option Value :=
  match T src with
  | some _ => match x, T dst with
    | .int _ n, some ⟨.int k, _, _, _⟩ => some (.int k (k.wrap n))
    | .string s, some ⟨.str, _, _, _⟩ => some (.string s)
    | _, _ => none
  | none => none
def boundA (F : Fr) (x : Option Operand) (d : Nat) : Option Nat :=
  match x with
  | none => some d
  | some a => match arg F a with
    | some (.int _ k) => if 0 ≤ k then some k.toNat else none
    | _ => none
def sliceA (T : Tab) (H : Heap) (F : Fr) (t : TypeId) (x : Value) (lo hi : Option Operand) : Option Value :=
  match x with
  | .string s => match T t, boundA F lo 0, boundA F hi s.size with
    | some ⟨.str, _, _, _⟩, some l, some h => if l ≤ h ∧ h ≤ s.size then some (.string (s.extract l h)) else none
    | _, _, _ => none
  | .slice none 0 0 => match T t, boundA F lo 0, boundA F hi 0 with
    | some ⟨.slice e, _, _, _⟩, some 0, some 0 => match T e with
      | some _ => some (.slice none 0 0)
      | none => none
    | _, _, _ => none
  | .slice (some p) n z => match T t, boundA F lo 0, boundA F hi n with
    | some ⟨.slice e, _, _, _⟩, some l, some h => match T e with
      | some i => if l ≤ h ∧ h ≤ n then (if l = h then some (.slice (some ⟨0, 0, none⟩) 0 0) else if z = i.size then some (.slice (some ⟨p.block, p.off + l * z, none⟩) (h - l) z) else none) else none
      | none => none
    | _, _, _ => none
  | .pointer (some p) => match T t with
    | some ⟨.array n e, _, _, _⟩ => match T e, boundA F lo 0, boundA F hi n with
      | some i, some l, some h => if l ≤ h ∧ h ≤ n ∧ (cellsAt H p.block p.off (n * i.size)).isSome = true then (if l = h then some (.slice (some ⟨0, 0, none⟩) 0 0) else some (.slice (some ⟨p.block, p.off + l * i.size, none⟩) (h - l) i.size)) else none
      | _, _, _ => none
    | _ => none
  | _ => none
def fillA (place : Nat → Option (Nat × Nat)) (cells : List Value) : List (Nat × Value) → Option (List Value)
  | [] => some cells
  | (i, v) :: rest => match place i with
    | some (off, size) => if v.cells.toList.length = size ∧ off + size ≤ cells.length then fillA place (cells.take off ++ v.cells.toList ++ cells.drop (off + size)) rest else none
    | none => none
def partsA (F : Fr) : List (Nat × Operand) → Option (List (Nat × Value))
  | [] => some []
  | (i, x) :: r => match arg F x with
    | some v => match partsA F r with
      | some l => some ((i, v) :: l)
      | none => none
    | none => none
def sizesA (T : Tab) : List (Nat × TypeId) → Option (List (Nat × Nat))
  | [] => some []
  | (o, t) :: r => match T t with
    | some i => match sizesA T r with
      | some l => some ((o, i.size) :: l)
      | none => none
    | none => none
def buildA (T : Tab) (t : TypeId) (parts : List (Nat × Value)) : Option Value :=
  match T t with
  | some ⟨.struct fs, _, _, z⟩ => match sizesA T fs with
    | some pl => match fillA (fun i => pl[i]?) z.cells.toList parts with
      | some cs => some (.agg cs.toArray)
      | none => none
    | none => none
  | some ⟨.array _ e, _, _, z⟩ => match T e with
    | some i => match fillA (fun k => some (k * i.size, i.size)) z.cells.toList parts with
      | some cs => some (.agg cs.toArray)
      | none => none
    | none => none
  | _ => none
def mostA (max : Bool) : Value → List Value → Option Value
  | v, [] => some v
  | .int k x, .int _ y :: r => mostA max (.int k (bif max then (if y > x then y else x) else (if y < x then y else x))) r
  | _, _ :: _ => none
def lenA (T : Tab) (t : TypeId) (x : Value) : Option Value :=
  match T t with
  | some ⟨.str, _, _, _⟩ => match x with
    | .string s => some (.int .i64 s.size)
    | _ => none
  | some ⟨.array n _, _, _, _⟩ => some (.int .i64 n)
  | some ⟨.ptr e, _, _, _⟩ => match T e with
    | some ⟨.array n _, _, _, _⟩ => some (.int .i64 n)
    | _ => none
  | some ⟨.slice _, _, _, _⟩ => match x with
    | .slice _ n _ => some (.int .i64 n)
    | _ => none
  | _ => none
def builtA (T : Tab) (b : Builtin) (tys : List TypeId) (args : List Value) : Option Value :=
  match b with
  | .len => match tys, args with
    | t :: _, x :: _ => lenA T t x
    | _, _ => none
  | .max => match args with
    | x :: r => mostA true x r
    | [] => none
  | .min => match args with
    | x :: r => mostA false x r
    | [] => none
  | _ => none
def indexA (T : Tab) (t : TypeId) (x : Value) (k : Int) : Option Value :=
  match x with
  | .agg cs => match T t with
    | some ⟨.array n e, _, _, _⟩ => match T e with
      | some i => if 0 ≤ k ∧ k < n then partA T e cs.toList (k.toNat * i.size) else none
      | none => none
    | _ => none
  | .string s => match T t with
    | some ⟨.str, _, _, _⟩ => if 0 ≤ k then match s[k.toNat]? with
      | some b => some (.int .u8 b.toNat)
      | none => none
      else none
    | _ => none
  | _ => none
def placeA (T : Tab) (t : TypeId) (x : Value) (k : Int) : Option Value :=
  match x with
  | .pointer (some p) => match T t with
    | some ⟨.array n e, _, _, _⟩ => match T e with
      | some i => if 0 ≤ k ∧ k < n then some (.pointer (some ⟨p.block, p.off + k.toNat * i.size, none⟩)) else none
      | none => none
    | _ => none
  | .slice (some p) n z => match T t with
    | some ⟨.slice e, _, _, _⟩ => match T e with
      | some i => if 0 ≤ k ∧ k < n then some (.pointer (some ⟨p.block, p.off + k.toNat * i.size, none⟩)) else none
      | none => none
    | _ => none
  | _ => none
def fieldPlaceA (T : Tab) (t : TypeId) (x : Value) (f : Nat) : Option Value :=
  match x with
  | .pointer (some p) => match T t with
    | some ⟨.struct fs, _, _, _⟩ => match fs[f]? with
      | some (off, ft) => match T ft with
        | some i => if i.size = 0 then none else some (.pointer (some ⟨p.block, p.off + off, none⟩))
        | none => none
      | none => none
    | _ => none
  | _ => none
def loadA (T : Tab) (H : Heap) (t : TypeId) (x : Value) : Option Value :=
  match x with
  | .pointer (some p) => match T t with
    | some i => match cellsAt H p.block p.off (bif i.d.agg then i.size else 1) with
      | some cs => bif i.d.agg then some (.agg cs.toArray) else cs[0]?
      | none => none
    | none => none
  | _ => none
def evalQ (T : Tab) (F : Fr) (H : Heap) (op : Op) : Option Value :=
  match op with
  | .move x => arg F x
  | .assign x => arg F x
  | .pick c a b => match arg F c with
    | some (.bool t) => bif t then arg F a else arg F b
    | _ => none
  | .nilCheck x => match arg F x with
    | some (.pointer (some p)) => some (.pointer (some p))
    | _ => none
  | .binOp op t x y _ => match arg F x with
    | some a => match arg F y with
      | some b => binA T op t (Region.isConst x || Region.isConst y) a b
      | none => none
    | none => none
  | .unOp op _ x => match arg F x with
    | some v => unA op v
    | none => none
  | .convert s d x => match arg F x with
    | some v => convA T s d v
    | none => none
  | .fieldAddr t x f => match arg F x with
    | some v => fieldPlaceA T t v f
    | none => none
  | .field t x f => match arg F x with
    | some (.agg cs) => match T t with
      | some ⟨.struct fs, _, _, _⟩ => match fs[f]? with
        | some (off, ft) => partA T ft cs.toList off
        | none => none
      | _ => none
    | _ => none
  | .indexAddr t x i => match arg F i with
    | some (.int _ k) => match arg F x with
      | some v => placeA T t v k
      | none => none
    | _ => none
  | .index t x i => match arg F i with
    | some (.int _ k) => match arg F x with
      | some v => indexA T t v k
      | none => none
    | _ => none
  | .extract x i => match arg F x with
    | some (.tuple vs) => vs.toList[i]?
    | _ => none
  | .load t x => match arg F x with
    | some v => loadA T H t v
    | none => none
  | .build t parts => match partsA F parts.toList with
    | some l => buildA T t l
    | none => none
  | .slice t x lo hi none => match arg F x with
    | some v => sliceA T H F t v lo hi
    | none => none
  | .makeInterface t x => match T t, arg F x with
    | some ⟨.iface, _, _, _⟩, _ => none
    | some _, some v => some (.iface t v)
    | _, _ => none
  | .makeFunc (.func fn) first captured => match argsA F first.toList with
    | some a => match argsA F captured.toList with
      | some b => some (.func (.func fn) a.toArray b.toArray)
      | none => none
    | none => none
  | .call ⟨.builtin b, args, tys⟩ => match argsA F args.toList with
    | some l => builtA T b tys.toList l
    | none => none
  | _ => none
def Quiet (P : Program) (w : World) (M : Mp) (H : Heap) (ρ : Operand → Value) (op : Op) (v : Value) : Prop :=
  ∃ rv, VR M v rv ∧ ∀ (o : Oper), o.op = op → ∀ w', Told M H w w' → (execOp ρ o).run P w' = .ok (.value rv) w'
section
variable {P : Program} {T : Tab} (hT : TabOK P T) {lo : Nat} {M : Mp} {H : Heap} {w : World} (hR : Rel lo M H w) {F : Fr} {a : Act} (hF : FR M F a.tmps) {v : Value}
include hF in
theorem q_move {x : Operand} (h : arg F x = some v) : Quiet P w M H a.eval (.move x) v := ⟨_, arg_sound hF h, fun o ho w' _ => by simp [execOp, ho]⟩
include hF in
theorem q_assign {x : Operand} (h : arg F x = some v) : Quiet P w M H a.eval (.assign x) v := ⟨_, arg_sound hF h, fun o ho w' _ => by simp [execOp, ho]⟩
include hF in
theorem q_pick {c x y : Operand} {t : Bool} (hc : arg F c = some (.bool t)) (h : (bif t then arg F x else arg F y) = some v) : Quiet P w M H a.eval (.pick c x y) v := by
  have hc' := arg_sound hF hc
  cases hcv : a.eval c <;> rw [hcv] at hc' <;> cases hc'
  cases t with
  | true => exact ⟨_, arg_sound hF h, fun o ho w' _ => by simp [execOp, ho, hcv, asBool]⟩
  | false => exact ⟨_, arg_sound hF h, fun o ho w' _ => by simp [execOp, ho, hcv, asBool]⟩
include hF in
theorem q_nilCheck {x : Operand} {p : Addr} (h : arg F x = some (.pointer (some p))) : Quiet P w M H a.eval (.nilCheck x) (.pointer (some p)) := by
  have hx := arg_sound hF h
  cases hxv : a.eval x <;> rw [hxv] at hx <;> cases hx
  rename_i b o' r s N hM
  exact ⟨_, .ptr hM, fun o ho w' _ => by simp [execOp, ho, hxv]⟩
end
end Go.Proofs.YtgkicojmgokinaaGreatDoor.Ab
