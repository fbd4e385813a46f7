/- Trimmed: Ab9f -/
import Derived.Test.YtgkicojmgokinaaGreatDoorAb9
namespace Go.Proofs.YtgkicojmgokinaaGreatDoor.Ab
open Go Go.RowKit
set_option linter.unusedVariables false
set_option linter.unusedSimpArgs false
def storeF (T : Tab) (lo : Nat) (H : Heap) (t : TypeId) (x v : Value) : Option (Bool × Heap) :=
  match x with
  | .pointer (some p) => match T t with
    | some i => match H[p.block]? with
      | some (some b) => bif i.d.agg then
          some (Nat.ble lo p.block && (Nat.beq v.cells.toList.length i.size && (Nat.ble (p.off + i.size) b.cells.length && v.cells.toList.all one)), H.set p.block (some ⟨b.cells.take p.off ++ v.cells.toList ++ b.cells.drop (p.off + i.size), b.elem, none⟩))
        else some (Nat.ble lo p.block && (Nat.beq i.size 1 && (Nat.blt p.off b.cells.length && one v)), H.set p.block (some ⟨b.cells.set p.off v, b.elem, none⟩))
      | _ => none
    | none => none
  | _ => none
def boxF (T : Tab) (H : Heap) (e : TypeId) (v : Value) : Option (Bool × Value × Heap) :=
  match T e with
  | some i => bif i.d.agg then some (true, .pointer (some ⟨H.length, 0, none⟩), H ++ [some ⟨v.cells.toList, e, none⟩])
    else some (one v, .pointer (some ⟨H.length, 0, none⟩), H ++ [some ⟨[v], e, none⟩])
  | none => none
def makeF (T : Tab) (H : Heap) (t : TypeId) (l c : Value) : Option (Bool × Value × Heap) :=
  match T t, l, c with
  | some ⟨.slice e, _, _, _⟩, .int _ l, .int _ c => match T e with
    | some i => some (decide (0 ≤ l) && (decide (l ≤ c) && (Nat.blt c.toNat 4611686018427387904 && (Nat.ble (i.bytes * c.toNat) 140737488355328 && Nat.blt 0 i.size))), .slice (some ⟨H.length, 0, none⟩) l.toNat i.size, H ++ [some ⟨zeros i.zero.cells.toList (l.toNat * i.size), e, none⟩])
    | none => none
  | _, _, _ => none
def behindF (i : TI) (lo : Nat) (H : Heap) (e : TypeId) (p : Addr) (m z : Nat) (cs : List Value) (n : Nat) : Option (Bool × Value × Heap) :=
  match H[p.block]? with
  | some (some b) => some (Nat.blt 0 i.size && (Nat.beq i.zero.cells.toList.length i.size && (Nat.ble lo p.block && (Nat.beq p.off 0 && (Nat.beq z i.size && (Nat.beq b.cells.length (m * z) && (Nat.beq b.elem e && (b.view.isNone && (cs.all one && (Nat.ble ((m + n) * i.bytes) 140737488355328 && Nat.ble (m + n) 9223372036854775807))))))))),
      .slice (some ⟨H.length, 0, none⟩) (m + n) i.size, H.set p.block none ++ [some ⟨b.cells ++ cs, e, none⟩])
  | _ => none
def appendF (T : Tab) (lo : Nat) (H : Heap) (t : TypeId) (s x : Value) : Option (Bool × Value × Heap) :=
  match T t with
  | some ⟨.slice e, _, _, _⟩ => match T e with
    | some i => match x with
      | .func (.yield z') ⟨xs⟩ ⟨[.int _ (.ofNat n)]⟩ => match s with
        | .slice none 0 0 => some (Nat.blt 0 n && (Nat.beq z' i.size && (Nat.blt 0 i.size && (Nat.beq i.zero.cells.toList.length i.size && (Nat.ble (n * i.bytes) 140737488355328 && Nat.ble n 9223372036854775807)))),
            .slice (some ⟨H.length, 0, none⟩) n i.size, H ++ [some ⟨xs, e, none⟩])
        | .slice (some p) m z => match behindF i lo H e p m z xs n with
          | some (g, r) => some (Nat.beq z' i.size && g, r)
          | none => none
        | _ => none
      | x => match s with
        | .slice (some p) m z => match srcA H i.size x with
          | some (cs, 0) => some (Nat.blt 0 i.size && Nat.beq i.zero.cells.toList.length i.size, .slice (some p) m z, H)
          | some (cs, n + 1) => behindF i lo H e p m z cs (n + 1)
          | none => none
        | s => match appendA T lo H t s x with
          | some r => some (true, r)
          | none => none
    | none => none
  | _ => none
def flatF (i : TI) (n : Nat) : Nat → List (Nat × Value) → Option (Bool × List Value)
  | k, [] => bif Nat.beq k n then some (true, []) else none
  | k, (j, v) :: r => bif Nat.beq j k then (match flatF i n (k + 1) r with
      | some (g, cs) => bif i.d.agg then some (Nat.beq v.cells.toList.length i.size && g, v.cells.toList ++ cs) else some (one v && (Nat.beq i.size 1 && g), v :: cs)
      | none => none) else none
def rowF (T : Tab) (H : Heap) (t : TypeId) (len : Nat) (parts : List (Nat × Value)) : Option (Bool × Value × Heap) :=
  match T t with
  | some ⟨.slice e, _, _, _⟩ => match T e with
    | some i => match flatF i len 0 parts with
      | some (g, cs) => some (g && (Nat.ble (len * i.size) 16777216 && (Nat.blt 0 i.size && Nat.blt 0 len)), .slice (some ⟨H.length, 0, none⟩) len i.size, H ++ [some ⟨cs, e, none⟩])
      | none => match rowA T H t len parts with
        | some r => some (true, r)
        | none => none
    | none => none
  | _ => none
def rowG (T : Tab) (H : Heap) (t : TypeId) (len : Nat) (parts : List (Nat × Value)) : Option (Bool × Value × Heap) :=
  match T t with
  | some ⟨.slice e, _, _, _⟩ => match T e with
    | some i => match flatF i len 0 parts with
      | some (g, cs) => some (g && (Nat.ble (len * i.size) 16777216 && (Nat.blt 0 i.size && Nat.blt 0 len)), gs i.size cs len, H)
      | none => none
    | none => none
  | _ => none
def evalF (T : Tab) (gB : Bool) (lo : Nat) (F : Fr) (H : Heap) (op : Op) : Option (Bool × Value × Heap) :=
  match op with
  | .store t x v => match arg F x with
    | some x => match arg F v with
      | some v => match storeF T lo H t x v with
        | some (g, H') => some (g, undef, H')
        | none => none
      | none => none
    | none => none
  | .box e x => match arg F x with
    | some v => boxF T H e v
    | none => none
  | .buildSlice t len parts => match partsA F parts.toList with
    | some l => bif gB then rowG T H t len l else rowF T H t len l
    | none => none
  | .makeSlice t l c => match arg F l with
    | some l => match arg F c with
      | some c => makeF T H t l c
      | none => none
    | none => none
  | .call ⟨.builtin .append, args, tys⟩ => match args.toList, tys.toList with
    | [s, x], [t, t'] => if t = t' then match arg F s with
      | some s => match arg F x with
        | some x => appendF T lo H t s x
        | none => none
      | none => none
      else none
    | _, _ => none
  | op => match evalE T lo F H op with
    | some r => some (true, r)
    | none => none
theorem one_cells {v : Value} (h : one v = true) : v.cells = #[v] := by cases v <;> first | rfl | cases h
theorem set_split {α : Type} (l : List α) (i : Nat) (v : α) (h : i < l.length) : l.take i ++ [v] ++ l.drop (i + 1) = l.set i v := by
  rw [List.set_eq_take_append_cons_drop, if_pos h]; simp
section
variable {P : Program} {T : Tab} (hT : TabOK P T) {lo : Nat} {M : Mp} {H : Heap} {w : World} (hR : Rel lo M H w) {F : Fr} {a : Act} (hF : FR M F a.tmps) {v : Value} {H' : Heap}
include hT hR hF in
theorem f_store {t : TypeId} {X V : Operand} {x y : Value} (hx : arg F X = some x) (hy : arg F V = some y) (h : storeF T lo H t x y = some (true, H')) : Effect P lo M H w a.eval (.store t X V) undef H' := by
  unfold storeF at h
  split at h
  · rename_i p
    split at h
    · rename_i i hi
      split at h
      · rename_i b hb
        cases ha : i.d.agg with
        | true =>
          rw [ha] at h
          simp only [cond_true, Option.some.injEq, Prod.mk.injEq, Bool.and_eq_true] at h
          obtain ⟨⟨h1, h2, h3, h4⟩, rfl⟩ := h
          exact e_store hT hR hF hx hy (by simp only [storeA, hi, hb, if_pos (And.intro (Nat.le_of_ble_eq_true h1) (And.intro (Nat.eq_of_beq_eq_true h2) (And.intro (Nat.le_of_ble_eq_true h3) h4)))])
        | false =>
          rw [ha] at h
          simp only [cond_false, Option.some.injEq, Prod.mk.injEq, Bool.and_eq_true] at h
          obtain ⟨⟨h1, h2, h3, h4⟩, rfl⟩ := h
          have h3 : p.off < b.cells.length := by simpa [Nat.blt_eq] using h3
          have h2 := Nat.eq_of_beq_eq_true h2
          have hc := one_cells h4
          refine e_store hT hR hF hx hy ?_
          have hcond : lo ≤ p.block ∧ y.cells.toList.length = i.size ∧ p.off + i.size ≤ b.cells.length ∧ y.cells.toList.all one = true := ⟨Nat.le_of_ble_eq_true h1, by rw [hc, h2]; rfl, by omega, by rw [hc]; simp [h4]⟩
          simp only [storeA, hi, hb, if_pos hcond]
          rw [hc, h2]
          rw [show (#[y] : Array Value).toList = [y] from rfl, set_split _ _ _ h3]
      · cases h
    · cases h
  · cases h
include hR hF in
theorem f_box {e : TypeId} {X : Operand} {x : Value} (hx : arg F X = some x) (h : boxF T H e x = some (true, v, H')) : Effect P lo M H w a.eval (.box e X) v H' := by
  unfold boxF at h
  split at h
  · rename_i i hi
    cases ha : i.d.agg with
    | true =>
      rw [ha] at h
      simp only [cond_true, Option.some.injEq, Prod.mk.injEq, true_and] at h
      obtain ⟨rfl, rfl⟩ := h
      exact e_box hR hF hx
    | false =>
      rw [ha] at h
      simp only [cond_false, Option.some.injEq, Prod.mk.injEq] at h
      obtain ⟨h1, rfl, rfl⟩ := h
      have := e_box (P := P) hR hF (e := e) hx
      rw [one_cells h1] at this
      exact this
  · cases h
theorem flatF_fill {i : TI} {n : Nat} : ∀ (ps : List (Nat × Value)) (k : Nat) (cs cells : List Value), flatF i n k ps = some (true, cs) → cells.length = n * i.size → k ≤ n → fillA (fun k => some (k * i.size, i.size)) cells ps = some (cells.take (k * i.size) ++ cs)
  | [], k, cs, cells, h, hl, hk => by
    unfold flatF at h
    cases hb : Nat.beq k n with
    | false => rw [hb] at h; cases h
    | true =>
      rw [hb] at h
      cases h
      obtain rfl := Nat.eq_of_beq_eq_true hb
      rw [← hl, List.take_length, List.append_nil]; rfl
  | (j, v) :: r, k, cs, cells, h, hl, hk => by
    unfold flatF at h
    cases hb : Nat.beq j k with
    | false => rw [hb] at h; cases h
    | true =>
      rw [hb, cond_true] at h
      obtain rfl := Nat.eq_of_beq_eq_true hb
      split at h
      · rename_i g cs' hr
        have key : v.cells.toList.length = i.size ∧ g = true ∧ cs = v.cells.toList ++ cs' := by
          cases ha : i.d.agg with
          | true =>
            rw [ha] at h
            simp only [cond_true, Option.some.injEq, Prod.mk.injEq, Bool.and_eq_true] at h
            exact ⟨Nat.eq_of_beq_eq_true h.1.1, h.1.2, h.2.symm⟩
          | false =>
            rw [ha] at h
            simp only [cond_false, Option.some.injEq, Prod.mk.injEq, Bool.and_eq_true] at h
            have hc := one_cells h.1.1
            exact ⟨by rw [hc, Nat.eq_of_beq_eq_true h.1.2.1]; rfl, h.1.2.2, by rw [hc]; exact h.2.symm⟩
        obtain ⟨h1, rfl, rfl⟩ := key
        have hjn : j < n := by
          cases r with
          | nil =>
            unfold flatF at hr
            cases hb2 : Nat.beq (j + 1) n with
            | false => rw [hb2] at hr; cases hr
            | true => have := Nat.eq_of_beq_eq_true hb2; omega
          | cons p r =>
            obtain ⟨q, u⟩ := p
            rcases Nat.lt_or_ge j n with h | h
            · exact h
            · exfalso
              have hno : ∀ (ps : List (Nat × Value)) (k : Nat) (x : Bool × List Value), n < k → flatF i n k ps = some x → False := by
                intro ps
                induction ps with
                | nil =>
                  intro k x hk h
                  unfold flatF at h
                  cases hb : Nat.beq k n with
                  | false => rw [hb] at h; cases h
                  | true => have := Nat.eq_of_beq_eq_true hb; omega
                | cons p ps ih =>
                  intro k x hk h
                  obtain ⟨j', v'⟩ := p
                  unfold flatF at h
                  cases hb : Nat.beq j' k with
                  | false => rw [hb] at h; cases h
                  | true =>
                    rw [hb, cond_true] at h
                    split at h
                    · rename_i hh; exact ih _ _ (by omega) hh
                    · cases h
              exact hno _ _ _ (by omega : n < j + 1) hr
        have hfit : j * i.size + i.size ≤ n * i.size := by rw [← Nat.succ_mul]; exact Nat.mul_le_mul_right _ hjn
        unfold fillA
        simp only [h1, hl, hfit, and_self, if_true]
        have hl2 : (cells.take (j * i.size) ++ v.cells.toList ++ cells.drop (j * i.size + i.size)).length = n * i.size := by
          simp only [List.length_append, List.length_take, List.length_drop, h1, hl]; omega
        rw [flatF_fill r (j + 1) cs' _ hr hl2 (by omega)]
        have ht : (cells.take (j * i.size) ++ v.cells.toList ++ cells.drop (j * i.size + i.size)).take ((j + 1) * i.size) = cells.take (j * i.size) ++ v.cells.toList := by
          rw [List.take_left']
          simp only [List.length_append, List.length_take, h1, hl, Nat.succ_mul]; omega
        rw [ht, List.append_assoc]
      · cases h
include hT hR hF in
theorem f_row {t : TypeId} {len : Nat} {parts : Array (Nat × Operand)} {l : List (Nat × Value)} (hp : partsA F parts.toList = some l) (h : rowF T H t len l = some (true, v, H')) : Effect P lo M H w a.eval (.buildSlice t len parts) v H' := by
  refine e_row hT hR hF hp ?_
  unfold rowF at h
  unfold rowA
  split at h
  · rename_i e _ _ _ ht
    split at h
    · rename_i i he
      split at h
      · rename_i g cs hf
        simp only [Option.some.injEq, Prod.mk.injEq, Bool.and_eq_true] at h
        obtain ⟨⟨rfl, h1, h2, h3⟩, rfl, rfl⟩ := h
        have h1 := Nat.le_of_ble_eq_true h1
        have h2 : 0 < i.size := by simpa [Nat.blt_eq] using h2
        have h3 : 0 < len := by simpa [Nat.blt_eq] using h3
        have := flatF_fill l 0 cs (zeros i.zero.cells.toList (len * i.size)) hf (zeros_length _ _) (Nat.zero_le _)
        rw [Nat.zero_mul, List.take_zero, List.nil_append] at this
        simp only [ht, he, if_pos (And.intro h1 (And.intro h2 h3)), this]
      · split at h
        · rename_i r hr
          simp only [Option.some.injEq, Prod.mk.injEq, true_and] at h
          subst h
          unfold rowA at hr
          exact hr
        · cases h
    · cases h
  · cases h
theorem flatF_len {i : TI} {n : Nat} : ∀ (ps : List (Nat × Value)) (k : Nat) (cs : List Value), flatF i n k ps = some (true, cs) → k ≤ n ∧ cs.length = (n - k) * i.size
  | [], k, cs, h => by
    unfold flatF at h
    cases hb : Nat.beq k n with
    | false => rw [hb] at h; cases h
    | true =>
      rw [hb] at h; cases h
      obtain rfl := Nat.eq_of_beq_eq_true hb
      simp
  | (j, v) :: r, k, cs, h => by
    unfold flatF at h
    cases hb : Nat.beq j k with
    | false => rw [hb] at h; cases h
    | true =>
      rw [hb, cond_true] at h
      split at h
      · rename_i g cs' hr
        have key : v.cells.toList.length = i.size ∧ g = true ∧ cs = v.cells.toList ++ cs' := by
          cases ha : i.d.agg with
          | true =>
            rw [ha] at h
            simp only [cond_true, Option.some.injEq, Prod.mk.injEq, Bool.and_eq_true] at h
            exact ⟨Nat.eq_of_beq_eq_true h.1.1, h.1.2, h.2.symm⟩
          | false =>
            rw [ha] at h
            simp only [cond_false, Option.some.injEq, Prod.mk.injEq, Bool.and_eq_true] at h
            have hc := one_cells h.1.1
            exact ⟨by rw [hc, Nat.eq_of_beq_eq_true h.1.2.1]; rfl, h.1.2.2, by rw [hc]; exact h.2.symm⟩
        obtain ⟨h1, rfl, rfl⟩ := key
        obtain ⟨h2, h3⟩ := flatF_len r (k + 1) cs' hr
        refine ⟨by omega, ?_⟩
        rw [List.length_append, h1, h3, show n - k = (n - (k + 1)) + 1 by omega, Nat.succ_mul]; omega
      · cases h
include hT hR hF in
theorem f_rowG {t : TypeId} {len : Nat} {parts : Array (Nat × Operand)} {l : List (Nat × Value)} (hp : partsA F parts.toList = some l) (h : rowG T H t len l = some (true, v, H')) : Effect P lo M H w a.eval (.buildSlice t len parts) v H' := by
  unfold rowG at h
  split at h
  · rename_i e _ _ _ ht
    split at h
    · rename_i i he
      split at h
      · rename_i g cs hf
        simp only [Option.some.injEq, Prod.mk.injEq, Bool.and_eq_true] at h
        obtain ⟨⟨rfl, h1, h2, h3⟩, rfl, rfl⟩ := h
        have hlen := (flatF_len l 0 cs hf).2
        rw [Nat.sub_zero] at hlen
        have h1 := Nat.le_of_ble_eq_true h1
        have h2 : 0 < i.size := by simpa [Nat.blt_eq] using h2
        have h3 : 0 < len := by simpa [Nat.blt_eq] using h3
        have hfl := flatF_fill l 0 cs (zeros i.zero.cells.toList (len * i.size)) hf (zeros_length _ _) (Nat.zero_le _)
        rw [Nat.zero_mul, List.take_zero, List.nil_append] at hfl
        obtain ⟨e', sz, cs', out', hv, hH, k4, hol, hrun⟩ := row_run (P := P) (w := w) (H := H) (t := t) (len := len) (v := .slice (some ⟨H.length, 0, none⟩) len i.size) (H' := H ++ [some ⟨cs, e, none⟩]) hT hF hp (by simp only [rowA, ht, he, if_pos (And.intro h1 (And.intro h2 h3)), hfl])
        have hH' : cs = cs' ∧ e = e' := by simpa using hH
        obtain ⟨rfl, rfl⟩ := hH'
        have hsz : i.size = sz := by injection hv
        subst hsz
        obtain ⟨q1, q2, q3⟩ := hR.alloc_froz (t := e) (ys := out')
        refine ⟨_, _, _, .value (.slice (some ⟨w.heap.size, 0 + 0, none⟩) len len), hrun, .inl rfl, .gsl (ys := out') (M := M.fzAdd w.heap.size out') (Or.inr ⟨rfl, rfl, rfl⟩) (by omega) (Nat.le_refl _) hlen ?_, q2, q1, q3⟩
        rw [List.drop_zero, ← hol, List.take_length]
        exact k4.le q2.le
      · cases h
    · cases h
  · cases h
include hT hR in
theorem f_make {t : TypeId} {L C : Operand} {l c : Value} (hl : VR M l (a.eval L)) (hc : VR M c (a.eval C)) (h : makeF T H t l c = some (true, v, H')) : Effect P lo M H w a.eval (.makeSlice t L C) v H' := by
  refine e_make hT hR hl hc ?_
  unfold makeF at h
  unfold makeA
  split at h
  · rename_i e _ _ _ _ l _ c ht
    split at h
    · rename_i i he
      simp only [Option.some.injEq, Prod.mk.injEq, Bool.and_eq_true, decide_eq_true_eq] at h
      obtain ⟨⟨h1, h2, h3, h4, h5⟩, rfl, rfl⟩ := h
      have h5 : 0 < i.size := by simpa [Nat.blt_eq] using h5
      have hc : c = (c.toNat : Int) := by omega
      have h3 : c < 4611686018427387904 := by
        have := Nat.le_of_ble_eq_true h3
        omega
      have h4 : (i.bytes : Int) * c ≤ 140737488355328 := by
        have := Nat.le_of_ble_eq_true h4
        rw [hc]
        have e : (i.bytes : Int) * (c.toNat : Int) = ((i.bytes * c.toNat : Nat) : Int) := by simp
        rw [e]; omega
      simp only [ht, he, if_pos (And.intro h1 (And.intro h2 (And.intro h3 (And.intro h4 h5))))]
    · cases h
  · cases h
include hT hR in
theorem f_append {op : Op} {t : TypeId} {s x s' x' : Value} (hs : VR M s s') (hx : VR M x x') (h : appendF T lo H t s x = some (true, v, H'))
    (hop : ∀ o : Oper, o.op = op → ∀ nx w', (∃ rv, nx = Next.value rv ∧ (Builtin.append_ #[t, t] o.type #[s', x']).run P w = .ok rv w') → (execOp a.eval o).run P w = .ok nx w') :
    Effect P lo M H w a.eval op v H' := by
  unfold appendF at h
  split at h
  · rename_i e _ _ _ ht
    split at h
    · rename_i i he
      have behind : ∀ {p : Addr} {m z n : Nat} {cs : List Value}, s = .slice (some p) m z → srcA H i.size x = some (cs, n) → (n = 0 → cs = []) → behindF i lo H e p m z cs n = some (true, v, H') → Effect P lo M H w a.eval op v H' := by
        intro p m z n cs hse hsrc hz0 hb
        subst hse
        unfold behindF at hb
        split at hb
        · rename_i b hbk
          simp only [Option.some.injEq, Prod.mk.injEq, Bool.and_eq_true] at hb
          obtain ⟨⟨g1, g2, g3, g4, g5, g6, g7, g8, g9, g10, g11⟩, rfl, rfl⟩ := hb
          have g1 : 0 < i.size := by simpa [Nat.blt_eq] using g1
          have g2 := Nat.eq_of_beq_eq_true g2
          have g3 := Nat.le_of_ble_eq_true g3
          have g4 := Nat.eq_of_beq_eq_true g4
          have g5 := Nat.eq_of_beq_eq_true g5
          have g6 := Nat.eq_of_beq_eq_true g6
          have g7 := Nat.eq_of_beq_eq_true g7
          have g8 : b.view = none := by cases hv : b.view <;> simp [hv] at g8 <;> rfl
          have g10 := Nat.le_of_ble_eq_true g10
          have g11 := Nat.le_of_ble_eq_true g11
          rcases Nat.eq_zero_or_pos n with rfl | hn
          · have hcs := hz0 rfl
            subst hcs
            obtain ⟨info', d', h1', h2', h3', h4', h5', h6', h7'⟩ := hT.get ht
            have := und_slice h3'; subst this
            have hx0 : x' = .slice none 0 0 ∨ ∃ ad c, x' = .slice (some ad) 0 c := by
              rcases srcA_sound hR hx hsrc with ⟨_, _, h⟩ | ⟨h, _⟩
              · exact h
              · omega
            cases hs with
            | empt => omega
            | @slice bk off _ _ rr sb N cc hM hn1 hn2 =>
              simp only at g3 g4 hbk
              have hq := hR.move g3 hbk hM
              have he2 : (⟨b.cells ++ [], e, none⟩ : Blk) = b := by
                rw [List.append_nil, ← g7, ← g8]
              refine ⟨M.add (rr, sb, N), _, w, .value (.slice (some ⟨rr, sb + off, none⟩) m cc), fun o ho => hop o ho _ _ ⟨_, rfl, run_append_zero w h2' (hT.sizeOf he w) hx0 (.inr ⟨_, _, _, rfl, hn1⟩)⟩, .inl rfl, ?_, ⟨Le.add _ _, fun k p hk e => ?_, fun _ _ _ h => .inl h⟩, by rw [he2]; exact hq, Keep.refl _ _ _⟩
              · subst g4; subst g5
                rw [Nat.add_zero]
                exact .slice (o := 0) (Mp.add_get hR.len) hn1 hn2
              · rcases getElem?_snoc _ _ _ _ e with ⟨h1, _⟩ | ⟨_, rfl⟩
                · omega
                · exact .inr ⟨bk, _, g3, hM, rfl⟩
          · refine e_append hT hR hs hx ?_ hop
            have hne : ¬ n = 0 := by omega
            simp only [appendA, ht, he, if_pos (And.intro g1 g2), hsrc, if_neg hne, hbk, if_pos (And.intro g3 (And.intro g4 (And.intro g5 (And.intro g6 (And.intro g7 (And.intro g9 (And.intro g10 g11)))))))]
        · cases hb
      split at h
      · rename_i z' xs _ n
        have hlen : n = 0 → z' = i.size → xs = [] := by
          intro h0 hz
          subst h0
          rcases gs_inv hx with ⟨h, _⟩ | ⟨h, _⟩ | ⟨ys, r, o, j, c, f1, f2, f3, f4, f5, _⟩
          · exact h
          · exact h
          · rw [Nat.zero_mul] at f4; exact List.eq_nil_of_length_eq_zero f4
        split at h
        · simp only [Option.some.injEq, Prod.mk.injEq, Bool.and_eq_true] at h
          obtain ⟨⟨g0, gz, g1, g2, g10, g11⟩, rfl, rfl⟩ := h
          have g0 : 0 < n := by simpa [Nat.blt_eq] using g0
          have gz := Nat.eq_of_beq_eq_true gz
          have g1 : 0 < i.size := by simpa [Nat.blt_eq] using g1
          have g2 := Nat.eq_of_beq_eq_true g2
          have g10 := Nat.le_of_ble_eq_true g10
          have g11 := Nat.le_of_ble_eq_true g11
          have hne : ¬ n = 0 := by omega
          refine e_append hT hR hs hx ?_ hop
          simp only [appendA, ht, he, if_pos (And.intro g1 g2), srcA, if_pos gz, if_neg hne, if_pos (And.intro g10 g11)]
        · rename_i p m z
          generalize hb : behindF i lo H e p m z xs n = r at h
          cases r with
          | none => cases h
          | some r =>
            obtain ⟨g, r⟩ := r
            simp only [Option.some.injEq, Prod.mk.injEq, Bool.and_eq_true] at h
            obtain ⟨⟨gz, rfl⟩, rfl⟩ := h
            have gz := Nat.eq_of_beq_eq_true gz
            exact behind rfl (by simp only [srcA, if_pos gz]) (fun h0 => hlen h0 gz) hb
        · cases h
      · split at h
        · rename_i p m z
          split at h
          · rename_i cs hsrc
            simp only [Option.some.injEq, Prod.mk.injEq, Bool.and_eq_true] at h
            obtain ⟨⟨g1, g2⟩, rfl, rfl⟩ := h
            have g1 : 0 < i.size := by simpa [Nat.blt_eq] using g1
            have g2 := Nat.eq_of_beq_eq_true g2
            refine e_append hT hR hs hx ?_ hop
            simp only [appendA, ht, he, if_pos (And.intro g1 g2), hsrc, if_true]
          · rename_i cs n hsrc
            exact behind rfl hsrc (fun h => by omega) h
          · cases h
        · split at h
          · rename_i r hr
            simp only [Option.some.injEq, Prod.mk.injEq, true_and] at h
            subst h
            exact e_append hT hR hs hx hr hop
          · cases h
    · cases h
  · cases h
include hT hR hF in
theorem evalF_sound {gB : Bool} {op : Op} (h : evalF T gB lo F H op = some (true, v, H')) : Effect P lo M H w a.eval op v H' := by
  unfold evalF at h
  split at h
  · split at h
    · rename_i hx
      split at h
      · rename_i hy
        split at h
        · rename_i g H2 hs
          simp only [Option.some.injEq, Prod.mk.injEq] at h
          obtain ⟨rfl, rfl, rfl⟩ := h
          exact f_store hT hR hF hx hy hs
        · cases h
      · cases h
    · cases h
  · split at h
    · rename_i hx; exact f_box hR hF hx h
    · cases h
  · split at h
    · rename_i hp
      cases gB with
      | true => exact f_rowG hT hR hF hp h
      | false => exact f_row hT hR hF hp h
    · cases h
  · split at h
    · rename_i hl
      split at h
      · rename_i hc; exact f_make hT hR (arg_sound hF hl) (arg_sound hF hc) h
      · cases h
    · cases h
  · rename_i args tys
    split at h
    · rename_i s x t t' ha ht
      split at h
      · rename_i htt
        subst htt
        split at h
        · rename_i s' hs
          split at h
          · rename_i x' hx
            refine f_append hT hR (arg_sound hF hs) (arg_sound hF hx) h fun o ho nx w' ⟨rv, h1, h2⟩ => ?_
            subst h1
            have e1 : args.map a.eval = #[a.eval s, a.eval x] := by
              rw [← Array.toArray_toList (xs := args), ha]; simp
            have e2 : tys = #[t, t] := by rw [← Array.toArray_toList (xs := tys), ht]
            subst e2
            simp only [execOp, ho, resolve, e1, invoke, builtin, Sem.run_bind, Sem.run_pure, Result.andThen_ok, h2]
          · cases h
        · cases h
      · cases h
    · cases h
  · split at h
    · rename_i hr
      simp only [Option.some.injEq, Prod.mk.injEq, true_and] at h
      subst h
      exact evalE_sound hT hR hF hr
    · cases h
end
def apdN (T : Tab) (F : Fr) (op : Op) : Option Bool :=
  match op with
  | .call ⟨.builtin .append, args, tys⟩ => match args.toList, tys.toList with
    | [s, x], [t, t'] => if t = t' then match arg F s with
      | some (.slice none 0 0) => match arg F x with
        | some (.func (.yield z') ⟨xs⟩ ⟨[.int k (.ofNat n)]⟩) => match T t with
          | some ⟨.slice e, _, _, _⟩ => match T e with
            | some i => some (Nat.beq n 0)
            | none => none
          | _ => none
        | _ => none
      | _ => none
      else none
    | _, _ => none
  | _ => none
theorem apdN_sound {P : Program} {T : Tab} (hT : TabOK P T) {lo : Nat} {M : Mp} {H : Heap} {w : World} (hR : Rel lo M H w) {F : Fr} {a : Act} (hF : FR M F a.tmps) {op : Op} (h : apdN T F op = some true) : Effect P lo M H w a.eval op (.slice none 0 0) H := by
  unfold apdN at h
  split at h
  · rename_i args tys
    split at h
    · rename_i s x t t' ha ht
      split at h
      · rename_i htt
        subst htt
        split at h
        · rename_i hs
          split at h
          · rename_i z' xs k n hx
            split at h
            · rename_i e _ _ _ he
              split at h
              · rename_i i hi
                simp only [Option.some.injEq] at h
                obtain rfl := Nat.eq_of_beq_eq_true h
                have e1 : args.map a.eval = #[a.eval s, a.eval x] := by
                  rw [← Array.toArray_toList (xs := args), ha]; simp
                have e2 : tys = #[t, t] := by rw [← Array.toArray_toList (xs := tys), ht]
                subst e2
                have es : a.eval s = .slice none 0 0 := by
                  have := arg_sound hF hs
                  generalize a.eval s = u at this
                  cases this; rfl
                have ex : a.eval x = .slice none 0 0 ∨ ∃ ad c, a.eval x = .slice (some ad) 0 c := by
                  rcases gs_inv (arg_sound hF hx) with ⟨_, _, h⟩ | ⟨_, _, ad, c, h⟩ | ⟨ys, r, o, j, c, _, _, _, _, _, h⟩
                  · exact .inl h
                  · exact .inr ⟨ad, c, h⟩
                  · exact .inr ⟨_, _, h⟩
                obtain ⟨d, _, hu, hd⟩ := hT.und he w
                have hu' : P.underlying t = some (.slice e) := by
                  simp only at hd
                  cases d <;> simp [tdOf] at hd
                  subst hd; exact hu
                refine ⟨M, .slice none 0 0, w, .value (.slice none 0 0), fun o ho => ?_, .inl rfl, .nils, Ext.refl _ _ _, hR, Keep.refl _ _ _⟩
                have hrun := run_append_zero (P := P) w (ty := o.type) hu' (hT.sizeOf hi w) ex (.inl es)
                rw [es] at hrun e1
                simp only [execOp, ho, resolve, e1, invoke, builtin, Sem.run_bind, Sem.run_pure, Result.andThen_ok, hrun]
              · cases h
            · cases h
          · cases h
        · cases h
      · cases h
    · cases h
  · cases h
end Go.Proofs.YtgkicojmgokinaaGreatDoor.Ab
