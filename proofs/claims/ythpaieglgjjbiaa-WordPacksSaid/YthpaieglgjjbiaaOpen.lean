/- What is read of a type's cells, as the printed kinds tell it: whole numbers, bools, structs and slices of such. -/
import Derived.Test.YthpaieglgjjbiaaWMore
import Derived.Deep.Slices
namespace Go.Proofs.Ythpaieglgjjbiaa.Op
open Go.RowKit Go.Deep Go.Proofs.YthpaieglgjjbiaaW.PrintWords
/-- Whatever reads as data of this type is one of these, and good. -/
def Opens {α : Type} (P : Program) (T : TypeId) (d : Kd α) (good : α → Prop) : Prop :=
  ∀ (H : Type) (enc : TypeId × Value → H) (w : World) (base : Nat) (spare : Nat → Bool) (held : Bool) (fuel : Nat) (cs : List Value) (x : DataW H × List MemPlace),
    DataW.trod enc P w base spare held fuel T cs = some x → ∃ a, d.K w a cs ∧ good a
theorem opens_int {P : Program} {T : TypeId} {k : IntKind} (hu : P.underlying T = some (.int k)) : Opens P T (Kd.int k) (fun n => (Lit.int k n).wf = true) := by
  intro H enc w base spare held fuel cs x h
  obtain ⟨n, hc, _, hw⟩ := DataW.trod_int hu h
  exact ⟨n, hc, hw⟩
theorem opens_bool {P : Program} {T : TypeId} (hu : P.underlying T = some .bool) : Opens P T Kd.bool (fun _ => True) := by
  intro H enc w base spare held fuel cs x h
  obtain ⟨b, hc, _⟩ := DataW.trod_bool hu h
  exact ⟨b, hc, trivial⟩
/-- Some fields of a struct, from a place on. -/
def OpensF {α : Type} (P : Program) (fs : List Field) (o : Nat) (d : Kd α) (good : α → Prop) : Prop :=
  ∀ (H : Type) (enc : TypeId × Value → H) (w : World) (base : Nat) (spare : Nat → Bool) (held : Bool) (fuel : Nat) (cs : List Value),
    cs.length = o + d.sz → (∀ f ∈ fs, ∃ x, DataW.trod enc P w base spare held fuel f.type ((cs.drop f.offset).take (P.cellsOf f.type)) = some x) → ∃ a, d.K w a (cs.drop o) ∧ good a
theorem opensF_one {α : Type} {P : Program} {f : Field} {o : Nat} {d : Kd α} {good : α → Prop} (ho : f.offset = o) (hc : P.cellsOf f.type = d.sz) (h : Opens P f.type d good) : OpensF P [f] o d good := by
  intro H enc w base spare held fuel cs hl hx
  obtain ⟨x, hx⟩ := hx f (List.mem_singleton.2 rfl)
  obtain ⟨a, hK, hg⟩ := h _ _ _ _ _ _ _ _ _ hx
  refine ⟨a, ?_, hg⟩
  have e : (cs.drop f.offset).take (P.cellsOf f.type) = cs.drop o := by
    rw [ho, hc]; exact List.take_of_length_le (by rw [List.length_drop]; omega)
  rwa [e] at hK
theorem opensF_cons {α β : Type} {P : Program} {f : Field} {fs : List Field} {o : Nat} {d : Kd α} {d2 : Kd β} {good : α → Prop} {good2 : β → Prop} (ho : f.offset = o) (hc : P.cellsOf f.type = d.sz) (h : Opens P f.type d good)
    (h2 : OpensF P fs (o + d.sz) d2 good2) : OpensF P (f :: fs) o (Kd.pair d d2) (fun x => good x.1 ∧ good2 x.2) := by
  intro H enc w base spare held fuel cs hl hx
  have hl' : cs.length = o + (d.sz + d2.sz) := hl
  obtain ⟨x, hx1⟩ := hx f (List.mem_cons_self ..)
  obtain ⟨a, hK, hg⟩ := h _ _ _ _ _ _ _ _ _ hx1
  obtain ⟨b, hK2, hg2⟩ := h2 H enc w base spare held fuel cs (by omega) (fun g hg => hx g (List.mem_cons_of_mem _ hg))
  rw [ho, hc] at hK
  refine ⟨(a, b), ⟨(cs.drop o).take d.sz, cs.drop (o + d.sz), ?_, hK, hK2⟩, hg, hg2⟩
  rw [← List.drop_drop, List.take_append_drop]
theorem opens_struct {α β : Type} {P : Program} {T : TypeId} {fs : Array Field} {d : Kd α} {good : α → Prop} {f : β → α} (hu : P.underlying T = some (.struct fs)) (hc : P.cellsOf T = d.sz)
    (h : OpensF P fs.toList 0 d good) (hf : ∀ a, ∃ b, f b = a) : Opens P T (Kd.iso d f) (fun b => good (f b)) := by
  intro H enc w base spare held fuel cs x hx
  obtain ⟨xs, n, rfl, _, hl, hsz, hel⟩ := DataW.trod_struct hu hx
  obtain ⟨a, hK, hg⟩ := h H enc w base spare held n cs (by omega) (fun g hg => by
    obtain ⟨i, hi, e⟩ := List.mem_iff_getElem.1 hg
    have hi' : i < fs.size := by simpa using hi
    have := hel i g (by rw [Array.getElem?_eq_getElem hi']; simpa using e)
    rw [List.getElem?_eq_getElem (by omega)] at this
    exact ⟨_, this⟩)
  obtain ⟨b, rfl⟩ := hf a
  exact ⟨b, hK, hg⟩
theorem choose_list {α : Type} {p : Nat → α → Prop} (n : Nat) (h : ∀ i, i < n → ∃ y, p i y) : ∃ l : List α, l.length = n ∧ ∀ i y, l[i]? = some y → p i y := by
  induction n with
  | zero => exact ⟨[], rfl, fun i y h => by simp at h⟩
  | succ n ih =>
    obtain ⟨l, hl, hp⟩ := ih (fun i hi => h i (by omega))
    obtain ⟨y, hy⟩ := h n (by omega)
    refine ⟨l ++ [y], by simp [hl], fun i z hz => ?_⟩
    by_cases hi : i < l.length
    · rw [List.getElem?_append_left hi] at hz; exact hp i z hz
    · rw [List.getElem?_append_right (by omega)] at hz
      have h0 : i - l.length = 0 := by
        by_cases h0 : i - l.length = 0
        · exact h0
        · rw [List.getElem?_eq_none (by simp; omega)] at hz; cases hz
      rw [h0] at hz
      have hz : y = z := by simpa using hz
      subst hz
      have : i = n := by omega
      subst this
      exact hy
/-- A slice of such: its row. -/
theorem opens_row {α : Type} {P : Program} {t e : TypeId} {d : Kd α} {good : α → Prop} (ht : P.underlying t = some (.slice e)) (hc : P.cellsOf e = d.sz) (hd : Opens P e d good)
    {H : Type} {enc : TypeId × Value → H} {w : World} {base : Nat} {spare : Nat → Bool} {held : Bool} {fuel : Nat} {cs : List Value} {x : DataW H × List MemPlace} (h : DataW.trod enc P w base spare held fuel t cs = some x) :
    ∃ (A : Option Addr) (c : Nat) (l : List α), cs = [.slice A l.length c] ∧ l.length ≤ c ∧ d.C w A l.length l ∧ (∀ y ∈ l, good y) ∧ l.length ≤ maxLen := by
  rcases open_slice ht h with ⟨rfl, _⟩ | ⟨a, len, cap, m, n, D, Pl, rfl, _, hl, hm, hmm, _, hx⟩
  · exact ⟨none, 0, [], rfl, Nat.le_refl _, ⟨rfl, by simp, fun h => by simp at h⟩, (fun _ h => by cases h), by simp⟩
  · have hle : len ≤ m := by rw [hmm]; split <;> omega
    have key : ∀ i, i < len → ∃ (y : α) (c : List Value), w.cells? base (a.add (i * P.cellsOf e)) (P.cellsOf e) = some c ∧ d.K w y c ∧ good y := fun i hi => by
      obtain ⟨c, h1, h2⟩ := hx i (by omega)
      obtain ⟨y, hK, hg⟩ := hd _ _ _ _ _ _ _ _ _ h2
      exact ⟨y, c, h1, hK, hg⟩
    obtain ⟨l, rfl, hp⟩ := choose_list len key
    have hml : maxLen = 9223372036854775807 := rfl
    refine ⟨some a, cap, l, rfl, hl, ⟨rfl, by omega, fun _ => ⟨a, rfl, fun j y hy => ?_⟩⟩, (fun y hy => ?_), by omega⟩
    · obtain ⟨c, h1, hK, _⟩ := hp j y hy
      obtain ⟨_, hcl, hcell⟩ := World.cells?_some h1
      rw [hc] at hcl hcell
      refine ⟨c, hcl, hK, fun i u hu => ?_⟩
      have hi : i < c.length := by
        by_cases hi : i < c.length
        · exact hi
        · rw [List.getElem?_eq_none (by omega)] at hu; cases hu
      have := hcell i (by omega)
      rw [Go.Deep.add_add] at this
      rw [this, hu]
    · obtain ⟨i, hi, e⟩ := List.mem_iff_getElem.1 hy
      obtain ⟨_, _, _, hg⟩ := hp i y (by rw [List.getElem?_eq_getElem hi, e])
      exact hg
end Go.Proofs.Ythpaieglgjjbiaa.Op
