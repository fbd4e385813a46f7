/- Trimmed: Ab7 -/
import Derived.Test.YtgkicojmgokinaaGreatDoorAb5
import Derived.Laws.AppendOwn
import Derived.IntWalk
namespace Go.Proofs.YtgkicojmgokinaaGreatDoor.Ab
open Go Go.RowKit
set_option linter.unusedVariables false
set_option linter.unusedSimpArgs false
def one (v : Value) : Bool := match v with
  | .agg _ | .tuple _ => false
  | _ => true
theorem one_VR {M : Mp} {v v' : Value} (h : VR M v v') (ho : one v = true) : v'.oneCell' = true := by
  cases h <;> first | assumption | (simp [one] at ho <;> rfl)
theorem one_VRs {M : Mp} {xs ys : List Value} (h : VRs M xs ys) (ho : xs.all one = true) : ∀ v ∈ ys, v.oneCell' = true := by
  induction xs generalizing ys with
  | nil => cases h; simp
  | cons x xs ih =>
    cases h with
    | cons a b =>
      simp only [List.all_cons, Bool.and_eq_true] at ho
      intro v hv
      rcases List.mem_cons.1 hv with rfl | hv
      · exact one_VR a ho.1
      · exact ih b ho.2 v hv
theorem Mp.add_get {M : Mp} {q : Pl} {n : Nat} (h : M.pl.length = n) : (M.add q).pl[n]? = some q := by
  show (M.pl ++ [q])[n]? = _
  subst h; simp
theorem Mp.add_pl (M : Mp) (q : Pl) : (M.add q).pl = M.pl ++ [q] := rfl
theorem getElem?_snoc {α : Type} (l : List α) (x : α) (i : Nat) (y : α) (h : (l ++ [x])[i]? = some y) : (i < l.length ∧ l[i]? = some y) ∨ (i = l.length ∧ y = x) := by
  rw [List.getElem?_append] at h
  split at h
  · exact .inl ⟨‹_›, h⟩
  · have hi : i - l.length = 0 := by
      rcases Nat.eq_zero_or_pos (i - l.length) with h0 | h0
      · exact h0
      · rw [List.getElem?_eq_none (by simp; omega)] at h; cases h
    rw [hi] at h
    simp at h
    exact .inr ⟨by omega, h.symm⟩
theorem Rel.new {lo : Nat} {M : Mp} {H : Heap} {w : World} (h : Rel lo M H w) {cs : List Value} {b : Blk} (hl : b.cells.length ≤ cs.length) (hv : VRs M b.cells (cs.take b.cells.length)) (hnv : b.view = none) :
    Rel lo (M.add (w.heap.size, 0, cs.length)) (H ++ [some b]) (w.alloc (.cells cs.toArray b.elem)) ∧ Ext lo M w (M.add (w.heap.size, 0, cs.length)) ∧ Keep lo M w (w.alloc (.cells cs.toArray b.elem)) := by
  refine ⟨⟨by simp [h.len, Mp.add_pl], fun i p e => ?_, fun i b' e => ?_, fun i p hi e => ?_, fun i j b1 b2 p q hij hb1 hb2 hp hq hlo => ?_, fun r o ys e => ?_, h.gl.mono (fun _ _ _ e => e) fun r o ys e => Below.heap_alloc w _ r (h.froz r o ys e).1.lt⟩, ⟨Le.add _ _, fun i p hi e => ?_, fun _ _ _ h => .inl h⟩, ⟨rfl, rfl, rfl, by simp, fun k hk _ => Below.heap_alloc w _ k hk⟩⟩
  · rw [World.size_alloc]
    rcases getElem?_snoc _ _ _ _ e with ⟨_, e⟩ | ⟨_, rfl⟩
    · exact Nat.lt_succ_of_lt (h.dom i p e)
    · exact Nat.lt_succ_self _
  · rcases getElem?_snoc _ _ _ _ e with ⟨_, e⟩ | ⟨hi, e⟩
    · obtain ⟨r, s, c, t, fz, h1, h2, h2', h3, h4, h5⟩ := h.blk i b' e
      exact ⟨r, s, c, t, fz, (Le.add _ _).at_ _ _ h1, by rw [Below.heap_alloc w _ r (h.dom i _ h1)]; exact h2, h2', h3, h4.le (Le.add _ _), fun p o hp => let ⟨s', N', k1, k2⟩ := h5 p o hp; ⟨s', N', (Le.add _ _).at_ _ _ k1, k2⟩⟩
    · cases e
      subst hi
      exact ⟨w.heap.size, 0, cs, b.elem, (0, 0), by rw [← h.len, Mp.add_pl]; simp, by simpa using heap_alloc_new w (.cells cs.toArray b.elem), fun _ => ⟨rfl, rfl⟩, by omega, by rw [List.drop_zero]; exact hv.le (Le.add _ _), fun p o hp => by rw [hnv] at hp; cases hp⟩
  · rcases getElem?_snoc _ _ _ _ e with ⟨_, e⟩ | ⟨_, rfl⟩
    · exact h.own i p hi e
    · rfl
  · rcases getElem?_snoc _ _ _ _ hb1 with ⟨li, e1⟩ | ⟨hi, _⟩ <;> rcases getElem?_snoc _ _ _ _ hb2 with ⟨lj, e2⟩ | ⟨hj, _⟩
    · rcases getElem?_snoc _ _ _ _ hp with ⟨_, e3⟩ | ⟨h3, _⟩
      · rcases getElem?_snoc _ _ _ _ hq with ⟨_, e4⟩ | ⟨h4, _⟩
        · exact h.inj i j _ _ p q hij e1 e2 e3 e4 hlo
        · rw [h.len] at h4; omega
      · rw [h.len] at h3; omega
    · rcases getElem?_snoc _ _ _ _ hp with ⟨_, e3⟩ | ⟨h3, _⟩
      · have := h.dom i p e3
        rcases getElem?_snoc _ _ _ _ hq with ⟨h4, _⟩ | ⟨_, rfl⟩
        · rw [h.len] at h4; omega
        · exact Nat.ne_of_lt this
      · rw [h.len] at h3; omega
    · rcases getElem?_snoc _ _ _ _ hq with ⟨_, e3⟩ | ⟨h3, _⟩
      · have := h.dom j q e3
        rcases getElem?_snoc _ _ _ _ hp with ⟨h4, _⟩ | ⟨_, rfl⟩
        · rw [h.len] at h4; omega
        · exact Nat.ne_of_gt this
      · rw [h.len] at h3; omega
    · omega
  · obtain ⟨f1, f2⟩ := h.froz r o ys e
    refine ⟨f1.of (Below.heap_alloc w _ r f1.lt), fun i p hi e => ?_⟩
    rcases getElem?_snoc _ _ _ _ e with ⟨_, e⟩ | ⟨_, rfl⟩
    · exact f2 i p hi e
    · exact Nat.ne_of_gt f1.lt
  · rcases getElem?_snoc _ _ _ _ e with ⟨h1, _⟩ | ⟨_, rfl⟩
    · omega
    · exact .inl (Nat.le_refl _)
def Mp.fzAdd (M : Mp) (r : Nat) (ys : List Value) : Mp := ⟨M.pl, fun r' o zs => M.fz r' o zs ∨ (r' = r ∧ o = 0 ∧ zs = ys)⟩
theorem Rel.alloc_froz {lo : Nat} {M : Mp} {H : Heap} {w : World} (h : Rel lo M H w) {t : TypeId} {ys : List Value} :
    Rel lo (M.fzAdd w.heap.size ys) H (w.alloc (.cells ys.toArray t)) ∧ Ext lo M w (M.fzAdd w.heap.size ys) ∧ Keep lo M w (w.alloc (.cells ys.toArray t)) := by
  have hle : Le M (M.fzAdd w.heap.size ys) := ⟨fun _ _ h => h, fun _ _ _ h => .inl h⟩
  have hb : Below w.heap.size w (w.alloc (.cells ys.toArray t)) := ⟨rfl, rfl, rfl, by simp, fun k hk => Below.heap_alloc w _ k hk⟩
  have h' := h.below hb
  refine ⟨⟨h'.len, h'.dom, fun i b e => ?_, h'.own, h'.inj, fun r o zs e => ?_, h'.gl.mono (fun _ _ _ e => .inl e) fun _ _ _ _ => rfl⟩, ⟨hle, fun i p hi e => ?_, fun r o zs e => ?_⟩, ⟨rfl, rfl, rfl, by simp, fun k hk _ => Below.heap_alloc w _ k hk⟩⟩
  · obtain ⟨r, s, c, t, fz, h1, h2, h2', h3, h4, h5⟩ := h'.blk i b e
    exact ⟨r, s, c, t, fz, h1, h2, h2', h3, h4.le hle, h5⟩
  · rcases e with e | ⟨rfl, rfl, rfl⟩
    · exact h'.froz r o zs e
    · refine ⟨⟨zs, t, (0, 0), heap_alloc_new w _, by omega, by rw [List.drop_zero, List.take_length], Unfz.zero _ _⟩, fun i p hi e => ?_⟩
      have := h.dom i p e
      exact Nat.ne_of_lt this
  · have := (List.getElem?_eq_some_iff.1 e).1
    have : (M.fzAdd w.heap.size ys).pl.length = M.pl.length := rfl
    omega
  · rcases e with e | ⟨rfl, _, _⟩
    · exact .inl e
    · exact .inr (.inl (Nat.le_refl _))
theorem Rel.at_ {lo : Nat} {M : Mp} {H : Heap} {w : World} (h : Rel lo M H w) {i : Nat} {b : Blk} (hlo : lo ≤ i) (hb : H[i]? = some (some b)) :
    ∃ (r : Nat) (cs : List Value), M.pl[i]? = some (r, 0, cs.length) ∧ w.heap[r]? = some (.cells cs.toArray b.elem (0, 0)) ∧ b.cells.length ≤ cs.length ∧ VRs M b.cells (cs.take b.cells.length) := by
  obtain ⟨r, s, cs, t, fz, h1, h2, h2', h3, h4, _⟩ := h.blk i b hb
  obtain ⟨rfl, rfl⟩ := h2' hlo
  have h0 := h.own i _ hlo h1
  simp only at h0
  subst h0
  exact ⟨r, cs, h1, h2, by omega, by simpa using h4⟩
theorem Rel.write {lo : Nat} {M : Mp} {H : Heap} {w : World} (h : Rel lo M H w) {i : Nat} {b b' : Blk} {r : Nat} {cs cs' : List Value} (hlo : lo ≤ i) (hb : H[i]? = some (some b)) (hM : M.pl[i]? = some (r, 0, cs.length))
    (hw : w.heap[r]? = some (.cells cs.toArray b.elem (0, 0))) (hl : cs'.length = cs.length) (he : b'.elem = b.elem) (hnv : b'.view = none) (hn : b'.cells.length ≤ cs'.length) (hv : VRs M b'.cells (cs'.take b'.cells.length)) :
    Rel lo M (H.set i (some b')) (w.setRow r cs'.toArray) ∧ Keep lo M w (w.setRow r cs'.toArray) := by
  have hil : i < H.length := (List.getElem?_eq_some_iff.1 hb).1
  refine ⟨⟨by simp [h.len], fun k p e => by simpa using h.dom k p e, fun k c e => ?_, h.own, fun k j b1 b2 p q hkj hb1 hb2 hp hq hk => ?_, fun r' o ys e => let ⟨f1, f2⟩ := h.froz r' o ys e; ⟨f1.of (setRow_other w r r' _ (fun e => f2 i _ hlo hM e.symm)), f2⟩, h.gl.mono (fun _ _ _ e => e) fun r' o ys e => setRow_other w r r' _ (fun e' => (h.froz r' o ys e).2 i _ hlo hM e'.symm)⟩, ⟨rfl, rfl, rfl, by simp, fun k hk hne => setRow_other w r k _ (fun e => hne i _ hlo hM e.symm)⟩⟩
  · by_cases hki : i = k
    · subst hki
      rw [List.getElem?_set_self hil] at e
      cases e
      exact ⟨r, 0, cs', b'.elem, (0, 0), by rw [hl]; exact hM, by rw [he]; exact setRow_heap w r _ _ _ _ hw, fun _ => ⟨rfl, rfl⟩, by omega, by rw [List.drop_zero]; exact hv, fun p o hp => by rw [hnv] at hp; cases hp⟩
    · rw [List.getElem?_set_ne hki] at e
      obtain ⟨r', s', c', t, fz, h1, h2, h2', h3, h4, h5⟩ := h.blk k c e
      have := h.inj i k _ _ _ _ hki hb e hM h1 (.inl hlo)
      exact ⟨r', s', c', t, fz, h1, by rw [setRow_other w r r' _ (fun e => this e.symm)]; exact h2, h2', h3, h4, h5⟩
  · have g : ∀ (k : Nat) (x : Blk), (H.set i (some b'))[k]? = some (some x) → ∃ y, H[k]? = some (some y) := by
      intro k x e
      by_cases hki : i = k
      · subst hki; exact ⟨b, hb⟩
      · rw [List.getElem?_set_ne hki] at e; exact ⟨x, e⟩
    obtain ⟨y1, hy1⟩ := g k b1 hb1
    obtain ⟨y2, hy2⟩ := g j b2 hb2
    exact h.inj k j y1 y2 p q hkj hy1 hy2 hp hq hk
theorem Rel.kill {lo : Nat} {M : Mp} {H : Heap} {w : World} (h : Rel lo M H w) (i : Nat) : Rel lo M (H.set i none) w := by
  have g : ∀ (k : Nat) (x : Blk), (H.set i none)[k]? = some (some x) → H[k]? = some (some x) := by
    intro k x e
    by_cases hki : i = k
    · subst hki
      rw [List.getElem?_set] at e
      simp at e
    · rwa [List.getElem?_set_ne hki] at e
  exact ⟨by simp [h.len], h.dom, fun k b e => h.blk k b (g k b e), h.own, fun k j b1 b2 p q hkj hb1 hb2 hp hq hk => h.inj k j b1 b2 p q hkj (g k b1 hb1) (g j b2 hb2) hp hq hk, h.froz, h.gl⟩
def Effect (P : Program) (lo : Nat) (M : Mp) (H : Heap) (w : World) (ρ : Operand → Value) (op : Op) (v : Value) (H' : Heap) : Prop :=
  ∃ (M' : Mp) (rv : Value) (w' : World) (nx : Next), (∀ o : Oper, o.op = op → (execOp ρ o).run P w = .ok nx w') ∧ (nx = .value rv ∨ nx = .skip ∧ rv = undef) ∧ VR M' v rv ∧ Ext lo M w M' ∧ Rel lo M' H' w' ∧ Keep lo M w w'
def zeros (z : List Value) (n : Nat) : List Value := (List.range n).map fun i => z[i % z.length]!
def storeA (T : Tab) (lo : Nat) (H : Heap) (t : TypeId) (x v : Value) : Option Heap :=
  match x with
  | .pointer (some p) => match T t with
    | some i => match H[p.block]? with
      | some (some b) => if lo ≤ p.block ∧ v.cells.toList.length = i.size ∧ p.off + i.size ≤ b.cells.length ∧ v.cells.toList.all one = true then
          some (H.set p.block (some ⟨b.cells.take p.off ++ v.cells.toList ++ b.cells.drop (p.off + i.size), b.elem, none⟩)) else none
      | _ => none
    | none => none
  | _ => none
def srcA (H : Heap) (z : Nat) (x : Value) : Option (List Value × Nat) :=
  match x with
  | .slice none 0 0 => some ([], 0)
  | .slice (some p) n z' => if n = 0 then some ([], 0) else if z' = z then match cellsAt H p.block p.off (n * z) with
      | some cs => some (cs, n)
      | none => none
    else none
  | .func (.yield z') ⟨xs⟩ ⟨[.int _ (.ofNat n)]⟩ => if z' = z then some (xs, n) else none
  | _ => none
def appendA (T : Tab) (lo : Nat) (H : Heap) (t : TypeId) (s x : Value) : Option (Value × Heap) :=
  match T t with
  | some ⟨.slice e, _, _, _⟩ => match T e with
    | some i => if 0 < i.size ∧ i.zero.cells.toList.length = i.size then match srcA H i.size x with
      | some (cs, n) => match s with
        | .slice none 0 0 => if n = 0 then some (.slice none 0 0, H) else if n * i.bytes ≤ 140737488355328 ∧ n ≤ 9223372036854775807 then
            some (.slice (some ⟨H.length, 0, none⟩) n i.size, H ++ [some ⟨cs, e, none⟩]) else none
        | .slice (some p) m z => if n = 0 then some (.slice (some p) m z, H) else match H[p.block]? with
            | some (some b) => if lo ≤ p.block ∧ p.off = 0 ∧ z = i.size ∧ b.cells.length = m * z ∧ b.elem = e ∧ cs.all one = true ∧ (m + n) * i.bytes ≤ 140737488355328 ∧ m + n ≤ 9223372036854775807 then
                some (.slice (some ⟨H.length, 0, none⟩) (m + n) i.size, H.set p.block none ++ [some ⟨b.cells ++ cs, e, none⟩]) else none
            | _ => none
        | _ => none
      | none => none
      else none
    | none => none
  | _ => none
def copyA (T : Tab) (lo : Nat) (H : Heap) (t : TypeId) (d x : Value) : Option (Value × Heap) :=
  match T t with
  | some ⟨.slice e, _, _, _⟩ => match T e, d with
    | some i, .slice (some p) dn z => match x with
      | .slice none 0 0 => some (.int .i64 0, H)
      | .slice (some q) sn z' => if Nat.min sn dn = 0 then some (.int .i64 0, H) else match cellsAt H q.block q.off (Nat.min sn dn * i.size), H[p.block]? with
        | some cs, some (some b) => if lo ≤ p.block ∧ z = i.size ∧ z' = i.size ∧ p.off + Nat.min sn dn * i.size ≤ b.cells.length ∧ cs.all one = true then
            some (.int .i64 (Nat.min sn dn), H.set p.block (some ⟨b.cells.take p.off ++ cs ++ b.cells.drop (p.off + Nat.min sn dn * i.size), b.elem, none⟩)) else none
        | _, _ => none
      | _ => none
    | some _, .slice none 0 0 => match x with
      | .slice _ _ _ => some (.int .i64 0, H)
      | _ => none
    | _, _ => none
  | _ => none
def makeA (T : Tab) (H : Heap) (t : TypeId) (l c : Value) : Option (Value × Heap) :=
  match T t, l, c with
  | some ⟨.slice e, _, _, _⟩, .int _ l, .int _ c => match T e with
    | some i => if 0 ≤ l ∧ l ≤ c ∧ c < 4611686018427387904 ∧ i.bytes * c ≤ 140737488355328 ∧ 0 < i.size then
        some (.slice (some ⟨H.length, 0, none⟩) l.toNat i.size, H ++ [some ⟨zeros i.zero.cells.toList (l.toNat * i.size), e, none⟩]) else none
    | none => none
  | _, _, _ => none
def rowA (T : Tab) (H : Heap) (t : TypeId) (len : Nat) (parts : List (Nat × Value)) : Option (Value × Heap) :=
  match T t with
  | some ⟨.slice e, _, _, _⟩ => match T e with
    | some i => if len * i.size ≤ 16777216 ∧ 0 < i.size ∧ 0 < len then match fillA (fun k => some (k * i.size, i.size)) (zeros i.zero.cells.toList (len * i.size)) parts with
      | some cs => some (.slice (some ⟨H.length, 0, none⟩) len i.size, H ++ [some ⟨cs, e, none⟩])
      | none => none
      else none
    | none => none
  | _ => none
def evalE (T : Tab) (lo : Nat) (F : Fr) (H : Heap) (op : Op) : Option (Value × Heap) :=
  match op with
  | .alloc e => match T e with
    | some i => some (.pointer (some ⟨H.length, 0, none⟩), H ++ [some ⟨i.zero.cells.toList, e, none⟩])
    | none => none
  | .box e x => match arg F x with
    | some v => some (.pointer (some ⟨H.length, 0, none⟩), H ++ [some ⟨v.cells.toList, e, none⟩])
    | none => none
  | .buildSlice t len parts => match partsA F parts.toList with
    | some l => rowA T H t len l
    | none => none
  | .store t x v => match arg F x with
    | some x => match arg F v with
      | some v => match storeA T lo H t x v with
        | some H' => some (undef, H')
        | none => none
      | none => none
    | none => none
  | .makeSlice t l c => match arg F l with
    | some l => match arg F c with
      | some c => makeA T H t l c
      | none => none
    | none => none
  | .call ⟨.builtin b, args, tys⟩ => match b, args.toList, tys.toList with
    | .append, [s, x], [t, t'] => if t = t' then match arg F s with
      | some s => match arg F x with
        | some x => appendA T lo H t s x
        | none => none
      | none => none
      else none
    | .copy, [d, x], t :: _ => match arg F d with
      | some d => match arg F x with
        | some x => copyA T lo H t d x
        | none => none
      | none => none
    | _, _, _ => none
  | _ => none
end Go.Proofs.YtgkicojmgokinaaGreatDoor.Ab
