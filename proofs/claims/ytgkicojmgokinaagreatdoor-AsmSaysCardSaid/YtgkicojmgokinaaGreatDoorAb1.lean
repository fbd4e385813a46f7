/- Trimmed: Ab1 -/
import Derived.Below
import Derived.Orders
import Derived.Still
import Derived.Deep.Quiet
import Derived.Laws.Entries
import Derived.Laws.Cells
import Derived.Laws.CopyRow
import Derived.ChangeKeysEq
import Derived.Lib.ItoaNum
namespace Go.Proofs.YtgkicojmgokinaaGreatDoor.Ab
open Go Go.RowKit
set_option linter.unusedVariables false
set_option linter.unusedSimpArgs false
abbrev Pl := Nat × Nat × Nat
structure Mp where
  pl : List Pl
  fz : Nat → Nat → List Value → Prop
def Mp.add (M : Mp) (p : Pl) : Mp := ⟨M.pl ++ [p], M.fz⟩
def opq : Value := .func (.methodOf 0 "") #[.nilFunc] #[]
def gs (z : Nat) (xs : List Value) (n : Nat) : Value := .func (.yield z) ⟨xs⟩ ⟨[.int .i64 (Int.ofNat n)]⟩
abbrev pinV (u : Value) : Value := .func (.methodOf 1 "") #[.nilFunc] ⟨[u]⟩
def gp (xs : List Value) : Value := .func (.yield 0) ⟨xs⟩ ⟨[]⟩
def snts : List Nat := [0, 1, 2, 3, 6, 7, 8, 9, 10, 11, 12]
def sntT : TypeId := 196
def sp (g : Nat) : Value := .func (.methodOf 2 "") #[.nilFunc] ⟨[.int .i64 (Int.ofNat g)]⟩
def errV (g : Nat) : Value := .iface sntT (sp g)
mutual
inductive VR (M : Mp) : Value → Value → Prop
  | bool (b : Bool) : VR M (.bool b) (.bool b)
  | int (k : IntKind) (n : Int) : VR M (.int k n) (.int k n)
  | str (s : ByteArray) : VR M (.string s) (.string s)
  | nilp : VR M (.pointer none) (.pointer none)
  | ptr {b o r s N : Nat} (h : M.pl[b]? = some (r, s, N)) : VR M (.pointer (some ⟨b, o, none⟩)) (.pointer (some ⟨r, s + o, none⟩))
  | nils : VR M (.slice none 0 0) (.slice none 0 0)
  | slice {b o n z r s N c : Nat} (h : M.pl[b]? = some (r, s, N)) (h1 : n ≤ c) (h2 : s + o + c * z ≤ N) : VR M (.slice (some ⟨b, o, none⟩) n z) (.slice (some ⟨r, s + o, none⟩) n c)
  /-- An empty part of a slice: where it lies is not told. -/
  | empt (a : Addr) (c : Nat) : VR M (.slice (some ⟨0, 0, none⟩) 0 0) (.slice (some a) 0 c)
  | func {fn : FuncId} {xs ys xs' ys' : List Value} : VRs M xs xs' → VRs M ys ys' → VR M (.func (.func fn) xs.toArray ys.toArray) (.func (.func fn) xs'.toArray ys'.toArray)
  | nilf : VR M .nilFunc .nilFunc
  | iface {t : TypeId} {v v' : Value} : VR M v v' → VR M (.iface t v) (.iface t v')
  | nili : VR M .nilIface .nilIface
  | agg {xs xs' : List Value} : VRs M xs xs' → VR M (.agg xs.toArray) (.agg xs'.toArray)
  | opq (v : Value) (h : v.oneCell' = true) : VR M opq v
  /-- A slice whose elements nobody writes any more: told by what it holds. -/
  | gsl {xs ys : List Value} {r o k n c z : Nat} (h : M.fz r o ys) (hk : k + n * z ≤ ys.length) (hc : n ≤ c) (hl : xs.length = n * z) (hv : VRs M xs ((ys.drop k).take (n * z))) : VR M (gs z xs n) (.slice (some ⟨r, o + k, none⟩) n c)
  | gnil (z : Nat) : VR M (gs z [] 0) (.slice none 0 0)
  | gemp (z : Nat) (a : Addr) (c : Nat) : VR M (gs z [] 0) (.slice (some a) 0 c)
  /-- A place that nobody writes any more. -/
  | gptr {xs ys : List Value} {r o k : Nat} (h : M.fz r o ys) (hk : k + xs.length ≤ ys.length) (hv : VRs M xs ((ys.drop k).take xs.length)) : VR M (gp xs) (.pointer (some ⟨r, o + k, none⟩))
  | tuple {xs xs' : List Value} : VRs M xs xs' → VR M (.tuple xs.toArray) (.tuple xs'.toArray)
  | pin (u : Value) (h : u.oneCell' = true) : VR M (pinV u) u
  | sptr {g : Nat} {a : Addr} (h : M.fz g 0 [.iface sntT (.pointer (some a))]) : VR M (sp g) (.pointer (some a))
inductive VRs (M : Mp) : List Value → List Value → Prop
  | nil : VRs M [] []
  | cons {x x' : Value} {xs xs' : List Value} : VR M x x' → VRs M xs xs' → VRs M (x :: xs) (x' :: xs')
end
structure Le (M M' : Mp) : Prop where
  at_ : ∀ (i : Nat) (p : Pl), M.pl[i]? = some p → M'.pl[i]? = some p
  fz : ∀ (r o : Nat) (ys : List Value), M.fz r o ys → M'.fz r o ys
theorem Le.refl (M : Mp) : Le M M := ⟨fun _ _ h => h, fun _ _ _ h => h⟩
theorem Le.trans {A B C : Mp} (h : Le A B) (k : Le B C) : Le A C := ⟨fun i p e => k.at_ i p (h.at_ i p e), fun r o ys e => k.fz r o ys (h.fz r o ys e)⟩
theorem Le.add (M : Mp) (q : Pl) : Le M (M.add q) := ⟨fun i p h => by
  show (M.pl ++ [q])[i]? = _
  rw [List.getElem?_append_left (List.getElem?_eq_some_iff.1 h).1]; exact h, fun _ _ _ h => h⟩
mutual
theorem VR.le {M M' : Mp} (h : Le M M') : ∀ {v v' : Value}, VR M v v' → VR M' v v'
  | _, _, .bool b => .bool b
  | _, _, .int k n => .int k n
  | _, _, .str s => .str s
  | _, _, .nilp => .nilp
  | _, _, .ptr e => .ptr (h.at_ _ _ e)
  | _, _, .nils => .nils
  | _, _, .slice e a b => .slice (h.at_ _ _ e) a b
  | _, _, .empt a c => .empt a c
  | _, _, .func a b => .func (VRs.le h a) (VRs.le h b)
  | _, _, .nilf => .nilf
  | _, _, .iface a => .iface (VR.le h a)
  | _, _, .nili => .nili
  | _, _, .agg a => .agg (VRs.le h a)
  | _, _, .opq v e => .opq v e
  | _, _, .gsl e a b c d => .gsl (h.fz _ _ _ e) a b c (VRs.le h d)
  | _, _, .gnil z => .gnil z
  | _, _, .gemp z a c => .gemp z a c
  | _, _, .gptr e a d => .gptr (h.fz _ _ _ e) a (VRs.le h d)
  | _, _, .tuple a => .tuple (VRs.le h a)
  | _, _, .pin u e => .pin u e
  | _, _, .sptr e => .sptr (h.fz _ _ _ e)
theorem VRs.le {M M' : Mp} (h : Le M M') : ∀ {v v' : List Value}, VRs M v v' → VRs M' v v'
  | _, _, .nil => .nil
  | _, _, .cons a b => .cons (VR.le h a) (VRs.le h b)
end
theorem VRs.length {M : Mp} {xs ys : List Value} (h : VRs M xs ys) : xs.length = ys.length := by
  induction xs generalizing ys with
  | nil => cases h; rfl
  | cons x xs ih => cases h with | cons a b => simp [ih b]
theorem VRs.get {M : Mp} {xs ys : List Value} (h : VRs M xs ys) (i : Nat) {x : Value} (e : xs[i]? = some x) : ∃ y, ys[i]? = some y ∧ VR M x y := by
  induction xs generalizing ys i with
  | nil => simp at e
  | cons z xs ih =>
    cases h with
    | cons a b =>
      cases i with
      | zero => simp at e; subst e; exact ⟨_, rfl, a⟩
      | succ i => simp at e; obtain ⟨y, h1, h2⟩ := ih b i e; exact ⟨y, by simpa using h1, h2⟩
theorem VRs.of {M : Mp} {xs ys : List Value} (hl : xs.length = ys.length) (h : ∀ (i : Nat) (x y : Value), xs[i]? = some x → ys[i]? = some y → VR M x y) : VRs M xs ys := by
  induction xs generalizing ys with
  | nil => cases ys with | nil => exact .nil | cons _ _ => simp at hl
  | cons x xs ih =>
    cases ys with
    | nil => simp at hl
    | cons y ys => exact .cons (h 0 x y rfl rfl) (ih (by simpa using hl) fun i a b ha hb => h (i + 1) a b (by simpa using ha) (by simpa using hb))
theorem VRs.append {M : Mp} {xs ys xs' ys' : List Value} (h : VRs M xs xs') (k : VRs M ys ys') : VRs M (xs ++ ys) (xs' ++ ys') := by
  induction xs generalizing xs' with
  | nil => cases h; exact k
  | cons x xs ih => cases h with | cons a b => exact .cons a (ih b)
theorem VRs.drop {M : Mp} {xs xs' : List Value} (h : VRs M xs xs') (n : Nat) : VRs M (xs.drop n) (xs'.drop n) := by
  induction n generalizing xs xs' with
  | zero => simpa using h
  | succ n ih => cases h with | nil => exact .nil | cons a b => simpa using ih b
theorem VRs.take {M : Mp} {xs xs' : List Value} (h : VRs M xs xs') (n : Nat) : VRs M (xs.take n) (xs'.take n) := by
  induction n generalizing xs xs' with
  | zero => simpa using VRs.nil
  | succ n ih => cases h with | nil => exact .nil | cons a b => simpa using VRs.cons a (ih b)
theorem VRs.set {M : Mp} {xs xs' : List Value} (h : VRs M xs xs') (n : Nat) {x x' : Value} (k : VR M x x') : VRs M (xs.set n x) (xs'.set n x') := by
  induction n generalizing xs xs' with
  | zero => cases h with | nil => exact .nil | cons a b => exact .cons k b
  | succ n ih => cases h with | nil => exact .nil | cons a b => exact .cons a (ih b)
theorem VRs.replicate {M : Mp} {x x' : Value} (k : VR M x x') (n : Nat) : VRs M (List.replicate n x) (List.replicate n x') := by
  induction n with
  | zero => exact .nil
  | succ n ih => exact .cons k ih
def plainN : Nat → Value → Bool
  | 0, _ => false
  | n + 1, v => match v with
    | .bool _ | .int _ _ | .string _ | .pointer none | .nilFunc | .nilIface => true
    | .slice none 0 0 => true
    | .agg cs => cs.toList.all (plainN n)
    | .tuple cs => cs.toList.all (plainN n)
    | .iface _ v => plainN n v
    | .func (.func _) a b => a.toList.isEmpty && b.toList.isEmpty
    | _ => false
def plain (v : Value) : Bool := plainN 5 v
theorem plains {M : Mp} {p : Value → Bool} {xs : List Value} (ih : ∀ v, p v = true → VR M v v) (h : xs.all p = true) : VRs M xs xs := by
  induction xs with
  | nil => exact .nil
  | cons x xs ihx =>
    simp only [List.all_cons, Bool.and_eq_true] at h
    exact .cons (ih x h.1) (ihx h.2)
theorem plainN_VR {M : Mp} : ∀ (n : Nat) (v : Value), plainN n v = true → VR M v v := by
  intro n
  induction n with
  | zero => intro v h; simp [plainN] at h
  | succ n ih =>
    intro v h
    unfold plainN at h
    split at h
    · exact .bool _
    · exact .int _ _
    · exact .str _
    · exact .nilp
    · exact .nilf
    · exact .nili
    · exact .nils
    · rename_i cs; have := VR.agg (plains ih h); simpa using this
    · rename_i cs; have := VR.tuple (plains ih h); simpa using this
    · exact .iface (ih _ h)
    · rename_i f a b
      simp only [Bool.and_eq_true, List.isEmpty_iff] at h
      have := VR.func (M := M) (fn := f) (VRs.nil) (VRs.nil)
      have ha : a = #[] := by simpa using h.1
      have hb : b = #[] := by simpa using h.2
      subst ha; subst hb; exact this
    · cases h
theorem plain_VR {M : Mp} {v : Value} (h : plain v = true) : VR M v v := plainN_VR 5 v h
theorem plains_eq {M : Mp} {p : Value → Bool} {xs ys : List Value} (ih : ∀ v v', p v = true → VR M v v' → v' = v) (h : xs.all p = true) (k : VRs M xs ys) : ys = xs := by
  induction xs generalizing ys with
  | nil => cases k; rfl
  | cons x xs ihx =>
    simp only [List.all_cons, Bool.and_eq_true] at h
    cases k with | cons a b => rw [ih _ _ h.1 a, ihx h.2 b]
theorem plainN_eq {M : Mp} : ∀ (n : Nat) (v v' : Value), plainN n v = true → VR M v v' → v' = v := by
  intro n
  induction n with
  | zero => intro v v' h; simp [plainN] at h
  | succ n ih =>
    intro v v' h k
    unfold plainN at h
    cases k
    case opq => cases h
    case gsl => cases h
    case gnil => cases h
    case gemp => cases h
    case gptr => cases h
    case pin => cases h
    case sptr => cases h
    case func fn xs ys xs' ys' a b =>
      simp at h
      obtain ⟨rfl, rfl⟩ := h
      cases a; cases b; rfl
    case iface t v v' a => rw [ih _ _ h a]
    case agg xs xs' a => rw [plains_eq ih (by simpa using h) a]
    case tuple xs xs' a => rw [plains_eq ih (by simpa using h) a]
    all_goals first | rfl | (simp at h)
theorem plain_eq {M : Mp} {v v' : Value} (h : plain v = true) (k : VR M v v') : v' = v := plainN_eq 5 v v' h k
structure Blk where
  cells : List Value
  elem : TypeId
  view : Option (Nat × Nat) := none
abbrev Heap := List (Option Blk)
def Unfz (f : Nat × Nat) (o n : Nat) : Prop := ∀ j, o ≤ j → j < o + n → ¬ (f.1 ≤ j ∧ j < f.2)
theorem Unfz.zero (o n : Nat) : Unfz (0, 0) o n := fun j _ _ h => Nat.not_lt_zero j h.2
def Froz (w : World) (r o : Nat) (ys : List Value) : Prop := ∃ (cs : List Value) (t : TypeId) (f : Nat × Nat), w.heap[r]? = some (.cells cs.toArray t f) ∧ o + ys.length ≤ cs.length ∧ (cs.drop o).take ys.length = ys ∧ Unfz f o ys.length
theorem Froz.lt {w : World} {r o : Nat} {ys : List Value} (h : Froz w r o ys) : r < w.heap.size := by
  obtain ⟨cs, t, f, h, _⟩ := h
  exact (Array.getElem?_eq_some_iff.1 h).1
theorem Froz.of {w w' : World} {r o : Nat} {ys : List Value} (h : Froz w r o ys) (e : w'.heap[r]? = w.heap[r]?) : Froz w' r o ys := by
  obtain ⟨cs, t, f, h1, h2, h3⟩ := h
  exact ⟨cs, t, f, by rw [e]; exact h1, h2, h3⟩
def GlobS (Z : Nat → Nat → List Value → Prop) (w : World) : Prop :=
  ∃ a : Nat → Addr, (∀ g ∈ snts, Z g 0 [.iface sntT (.pointer (some (a g)))] ∧ Z (a g).block 0 [] ∧ ∃ (cs : Array Value) (t : TypeId), w.heap[(a g).block]? = some (.cells cs t (0, 0))) ∧
    ∀ g ∈ snts, ∀ g' ∈ snts, a g = a g' → g = g'
def GlobT (Z : Nat → Nat → List Value → Prop) (w : World) : Prop :=
  (∃ m, Z 4 0 [.int .i64 m]) ∧ (∃ t v, Z 15 0 [.iface t v]) ∧ (∃ t v, Z 16 0 [.iface t v]) ∧ Z 5 0 [] ∧ ∃ (t : TypeId) (f : Nat × Nat), w.heap[5]? = some (.cells (Lib.pow10Tab.map fun z => Value.int .u64 z).toArray t f)
def Globs (Z : Nat → Nat → List Value → Prop) (w : World) : Prop := GlobS Z w ∧ GlobT Z w
theorem Globs.mono {Z Z' : Nat → Nat → List Value → Prop} {w w' : World} (h : Globs Z w) (hz : ∀ r o ys, Z r o ys → Z' r o ys) (hw : ∀ r o ys, Z r o ys → w'.heap[r]? = w.heap[r]?) : Globs Z' w' := by
  obtain ⟨⟨a, h1, h2⟩, ⟨m, g1⟩, ⟨t, v, g2⟩, ⟨t', v', g3⟩, g4, g5⟩ := h
  exact ⟨⟨a, fun g hg => ⟨hz _ _ _ (h1 g hg).1, hz _ _ _ (h1 g hg).2.1, by rw [hw _ _ _ (h1 g hg).2.1]; exact (h1 g hg).2.2⟩, h2⟩, ⟨m, hz _ _ _ g1⟩, ⟨t, v, hz _ _ _ g2⟩, ⟨t', v', hz _ _ _ g3⟩, hz _ _ _ g4, by rw [hw _ _ _ g4]; exact g5⟩
structure Rel (lo : Nat) (M : Mp) (H : Heap) (w : World) : Prop where
  len : M.pl.length = H.length
  dom : ∀ (i : Nat) (p : Pl), M.pl[i]? = some p → p.1 < w.heap.size
  blk : ∀ (i : Nat) (b : Blk), H[i]? = some (some b) → ∃ (r s : Nat) (cs : List Value) (t : TypeId) (fz : Nat × Nat), M.pl[i]? = some (r, s, cs.length) ∧ w.heap[r]? = some (.cells cs.toArray t fz) ∧ (lo ≤ i → t = b.elem ∧ fz = (0, 0)) ∧ s + b.cells.length ≤ cs.length ∧ VRs M b.cells ((cs.drop s).take b.cells.length) ∧
    ∀ (p o : Nat), b.view = some (p, o) → ∃ s' N', M.pl[p]? = some (r, s', N') ∧ s = s' + o
  own : ∀ (i : Nat) (p : Pl), lo ≤ i → M.pl[i]? = some p → p.2.1 = 0
  inj : ∀ (i j : Nat) (b b' : Blk) (p q : Pl), i ≠ j → H[i]? = some (some b) → H[j]? = some (some b') → M.pl[i]? = some p → M.pl[j]? = some q → (lo ≤ i ∨ lo ≤ j) → p.1 ≠ q.1
  froz : ∀ (r o : Nat) (ys : List Value), M.fz r o ys → Froz w r o ys ∧ ∀ (i : Nat) (p : Pl), lo ≤ i → M.pl[i]? = some p → p.1 ≠ r
  gl : Globs M.fz w
structure Keep (lo : Nat) (M : Mp) (w w' : World) : Prop where
  os : w'.os = w.os
  tape : w'.tape = w.tape
  output : w'.output = w.output
  size : w.heap.size ≤ w'.heap.size
  block : ∀ k, k < w.heap.size → (∀ (i : Nat) (p : Pl), lo ≤ i → M.pl[i]? = some p → p.1 ≠ k) → w'.heap[k]? = w.heap[k]?
structure Ext (lo : Nat) (M : Mp) (w : World) (M' : Mp) : Prop where
  le : Le M M'
  new : ∀ (i : Nat) (p : Pl), M.pl.length ≤ i → M'.pl[i]? = some p → w.heap.size ≤ p.1 ∨ ∃ (j : Nat) (q : Pl), lo ≤ j ∧ M.pl[j]? = some q ∧ q.1 = p.1
  newfz : ∀ (r o : Nat) (ys : List Value), M'.fz r o ys → M.fz r o ys ∨ w.heap.size ≤ r ∨ ∃ (j : Nat) (q : Pl), lo ≤ j ∧ M.pl[j]? = some q ∧ q.1 = r
theorem Ext.refl (lo : Nat) (M : Mp) (w : World) : Ext lo M w M := ⟨Le.refl M, fun i p h e => (by rw [List.getElem?_eq_none h] at e; cases e), fun _ _ _ h => .inl h⟩
theorem Ext.trans {lo : Nat} {A B C : Mp} {w w' : World} (h : Ext lo A w B) (hs : w.heap.size ≤ w'.heap.size) (k : Ext lo B w' C) : Ext lo A w C := by
  have back : ∀ (j : Nat) (q : Pl), lo ≤ j → B.pl[j]? = some q → w.heap.size ≤ q.1 ∨ ∃ (j' : Nat) (q' : Pl), lo ≤ j' ∧ A.pl[j']? = some q' ∧ q'.1 = q.1 := by
    intro j q hj hq
    rcases Nat.lt_or_ge j A.pl.length with hA | hA
    · obtain ⟨q', hq'⟩ : ∃ q, A.pl[j]? = some q := ⟨A.pl[j], List.getElem?_eq_getElem hA⟩
      have := h.le.at_ j q' hq'; rw [this] at hq; cases hq
      exact .inr ⟨j, _, hj, hq', rfl⟩
    · exact h.new j q hA hq
  refine ⟨h.le.trans k.le, fun i p hi e => ?_, fun r o ys e => ?_⟩
  · rcases Nat.lt_or_ge i B.pl.length with hb | hb
    · have : B.pl[i]? = some p := by
        obtain ⟨q, hq⟩ : ∃ q, B.pl[i]? = some q := ⟨B.pl[i], List.getElem?_eq_getElem hb⟩
        have := k.le.at_ i q hq; rw [this] at e; cases e; exact hq
      exact h.new i p hi this
    · rcases k.new i p hb e with h1 | ⟨j, q, h1, h2, h3⟩
      · exact .inl (Nat.le_trans hs h1)
      · rcases back j q h1 h2 with h4 | ⟨j', q', h4, h5, h6⟩
        · exact .inl (h3 ▸ h4)
        · exact .inr ⟨j', q', h4, h5, h6.trans h3⟩
  · rcases k.newfz r o ys e with h1 | h1 | ⟨j, q, h1, h2, h3⟩
    · exact h.newfz r o ys h1
    · exact .inr (.inl (Nat.le_trans hs h1))
    · rcases back j q h1 h2 with h4 | ⟨j', q', h4, h5, h6⟩
      · exact .inr (.inl (h3 ▸ h4))
      · exact .inr (.inr ⟨j', q', h4, h5, h6.trans h3⟩)
theorem Keep.refl (lo : Nat) (M : Mp) (w : World) : Keep lo M w w := ⟨rfl, rfl, rfl, Nat.le_refl _, fun _ _ _ => rfl⟩
theorem Keep.trans {lo : Nat} {M M' : Mp} {a b c : World} (h : Keep lo M a b) (he : Ext lo M a M') (k : Keep lo M' b c) : Keep lo M a c :=
  ⟨k.os.trans h.os, k.tape.trans h.tape, k.output.trans h.output, Nat.le_trans h.size k.size, fun i hi hn => by
    rw [k.block i (Nat.lt_of_lt_of_le hi h.size) ?_, h.block i hi hn]
    intro j p hj e
    rcases Nat.lt_or_ge j M.pl.length with hm | hm
    · obtain ⟨q, hq⟩ : ∃ q, M.pl[j]? = some q := ⟨M.pl[j], List.getElem?_eq_getElem hm⟩
      have := he.le.at_ j q hq; rw [this] at e; cases e; exact hn j _ hj hq
    · rcases he.new j p hm e with h1 | ⟨j', q, h1, h2, h3⟩
      · omega
      · rw [← h3]; exact hn j' q h1 h2⟩
theorem Keep.drew {lo : Nat} {M : Mp} {w : World} (n : Nat) : Keep lo M w { w with drawn := n } := ⟨rfl, rfl, rfl, Nat.le_refl _, fun _ _ _ => rfl⟩
theorem Rel.drew {lo : Nat} {M : Mp} {H : Heap} {w : World} (h : Rel lo M H w) (n : Nat) : Rel lo M H { w with drawn := n } := ⟨h.len, h.dom, h.blk, h.own, h.inj, h.froz, h.gl.mono (fun _ _ _ e => e) fun _ _ _ _ => rfl⟩
theorem Rel.below {lo : Nat} {M : Mp} {H : Heap} {w w' : World} (h : Rel lo M H w) (hb : Below w.heap.size w w') : Rel lo M H w' :=
  ⟨h.len, fun i p e => Nat.lt_of_lt_of_le (h.dom i p e) hb.size, fun i b e => by
    obtain ⟨r, s, cs, t, fz, h1, h2, h3⟩ := h.blk i b e
    exact ⟨r, s, cs, t, fz, h1, by rw [hb.block r (h.dom i _ h1)]; exact h2, h3⟩, h.own, h.inj, fun r o ys e => let ⟨h1, h2⟩ := h.froz r o ys e; ⟨h1.of (hb.block r h1.lt), h2⟩, h.gl.mono (fun _ _ _ e => e) fun r o ys e => hb.block r (h.froz r o ys e).1.lt⟩
structure Told (M : Mp) (H : Heap) (w w' : World) : Prop where
  blk : ∀ (i : Nat) (b : Blk) (p : Pl), H[i]? = some (some b) → M.pl[i]? = some p → w'.heap[p.1]? = w.heap[p.1]?
  fz : ∀ (r o : Nat) (ys : List Value), M.fz r o ys → w'.heap[r]? = w.heap[r]?
theorem Told.refl (M : Mp) (H : Heap) (w : World) : Told M H w w := ⟨fun _ _ _ _ _ => rfl, fun _ _ _ _ => rfl⟩
theorem Told.of_below {lo : Nat} {M : Mp} {H : Heap} {w w' : World} (h : Rel lo M H w) (hb : Below w.heap.size w w') : Told M H w w' := ⟨fun i b p _ hM => hb.block p.1 (h.dom i p hM), fun r o ys e => hb.block r (h.froz r o ys e).1.lt⟩
theorem Keep.below {lo : Nat} {M : Mp} {w w' : World} (h : Keep lo M w w') (hl : M.pl.length ≤ lo) : Below w.heap.size w w' :=
  ⟨h.os, h.tape, h.output, h.size, fun k hk => h.block k hk fun i p hi e => by
    rw [List.getElem?_eq_none (by omega)] at e; cases e⟩
theorem Keep.of_below {lo : Nat} {M : Mp} {w w' : World} (h : Below w.heap.size w w') : Keep lo M w w' := ⟨h.os, h.tape, h.output, h.size, fun k hk _ => h.block k hk⟩
abbrev Fr := List (Nat × Value)
def Fr.get : Fr → Nat → Option Value
  | [], _ => none
  | (k, v) :: r, t => bif k == t then some v else Fr.get r t
def FR (M : Mp) (F : Fr) (tmps : Array Value) : Prop := ∀ (t : Nat) (v : Value), Fr.get F t = some v → ∃ u, tmps[t]? = some u ∧ VR M v u
theorem FR.le {M M' : Mp} {F : Fr} {tmps : Array Value} (h : FR M F tmps) (hl : Le M M') : FR M' F tmps := fun t v e => let ⟨u, h1, h2⟩ := h t v e; ⟨u, h1, h2.le hl⟩
theorem FR.put {M : Mp} {F : Fr} {tmps : Array Value} (h : FR M F tmps) {d : Nat} {v u : Value} (hd : d < tmps.size) (hv : VR M v u) : FR M ((d, v) :: F) (tmps.setIfInBounds d u) := by
  intro t x e
  simp only [Fr.get] at e
  by_cases hdt : d = t
  · subst hdt
    simp at e; subst e
    exact ⟨u, by simp [hd], hv⟩
  · have : (d == t) = false := by simpa using hdt
    rw [this] at e
    obtain ⟨y, h1, h2⟩ := h t x e
    exact ⟨y, by rw [Array.getElem?_setIfInBounds_ne (by simpa using hdt)]; exact h1, h2⟩
def arg (F : Fr) : Operand → Option Value
  | .tmp t => F.get t
  | .const v => bif plain v then some v else none
  | .func f => some (.func (.func f) #[] #[])
  | .global g => bif snts.contains g then some (pinV (.pointer (some ⟨g, 0, none⟩))) else none
theorem arg_sound {M : Mp} {F : Fr} {a : Act} (hF : FR M F a.tmps) {x : Operand} {v : Value} (h : arg F x = some v) : VR M v (a.eval x) := by
  cases x with
  | tmp t =>
    obtain ⟨u, h1, h2⟩ := hF t v h
    simp only [Act.eval, Array.getD_eq_getD_getElem?, h1, Option.getD_some]; exact h2
  | const c =>
    simp only [arg] at h
    cases hp : plain c with
    | true => rw [hp] at h; cases h; exact plain_VR hp
    | false => rw [hp] at h; cases h
  | global g =>
    simp only [arg] at h
    cases hg : snts.contains g with
    | true => rw [hg] at h; cases h; exact .pin _ rfl
    | false => rw [hg] at h; cases h
  | func f => cases h; exact .func (xs := []) (ys := []) (xs' := []) (ys' := []) .nil .nil
end Go.Proofs.YtgkicojmgokinaaGreatDoor.Ab
