/- The abstract run, eighteenth part: a piece run, of which some slots and the first blocks are told on. -/
import Derived.Test.YtbcikaoklpekhaaAb17
namespace Go.Proofs.Ytbcikaoklpekhaa.Ab
open Go Go.RowKit
set_option linter.unusedVariables false
set_option linter.unusedSimpArgs false
/-- A value that names none but the first blocks. -/
def Tr (k : Nat) (v : Value) : Prop := ∀ (M : Mp) (u : Value), k ≤ M.pl.length → VR M v u → VR (selM M (List.range k)) v u
theorem range_get {k i : Nat} (h : i < k) : (List.range k)[i]? = some i := by simp [h]
theorem Tr.gh {k : Nat} {v : Value} (h : Gh v) : Tr k v := fun M u _ hv => tr_gh h hv
theorem Tr.plain {k : Nat} {v : Value} (h : Ab.plain v = true) : Tr k v := Tr.gh (Gh.plain h)
theorem Tr.ptr {k i o : Nat} (h : i < k) : Tr k (.pointer (some ⟨i, o, none⟩)) := fun M u hl hv => tr_ptr (range_get h) (by omega) hv
theorem Tr.slice {k i o n z : Nat} (h : i < k) (hz : 0 < z) : Tr k (.slice (some ⟨i, o, none⟩) n z) := fun M u hl hv => tr_slice (range_get h) (by omega) hz hv
theorem Tr.vrs {k : Nat} {xs : List Value} (h : ∀ x ∈ xs, Tr k x) : ∀ {M : Mp} {us : List Value}, k ≤ M.pl.length → VRs M xs us → VRs (selM M (List.range k)) xs us := by
  induction xs with
  | nil => intro M us _ hv; cases hv; exact .nil
  | cons x xs ih => intro M us hl hv; cases hv with | cons a b => exact .cons (h x (List.mem_cons_self ..) _ _ hl a) (ih (fun y hy => h y (List.mem_cons_of_mem _ hy)) hl b)
theorem Tr.agg {k : Nat} {xs : List Value} (h : ∀ x ∈ xs, Tr k x) : Tr k (.agg ⟨xs⟩) := fun M u hl hv => by
  generalize hg : Value.agg ⟨xs⟩ = g at hv
  cases hv <;> first | (cases hg; done) | skip
  case agg ys ys' a =>
    have : xs = ys := by injection hg with e; injection e
    subst this
    exact .agg (Tr.vrs h hl a)
/-- A check that a value names none but the first blocks; the third answer: it is a ghost, to be shown. -/
def inK (k : Nat) : Value → Bool
  | .pointer (some ⟨i, _, none⟩) => Nat.blt i k
  | .slice (some ⟨i, _, none⟩) _ z => Nat.blt i k && Nat.blt 0 z
  | v => plain v
theorem Tr.of_inK {k : Nat} {v : Value} (h : inK k v = true) : Tr k v := by
  unfold inK at h
  split at h
  · exact Tr.ptr (by simpa [Nat.blt_eq] using h)
  · simp only [Bool.and_eq_true, Nat.blt_eq] at h
    exact Tr.slice h.1 h.2
  · exact Tr.plain h
/-- What is seen behind a piece: some slots, the first blocks. -/
def see (ts : List Nat) (k : Nat) (e : Exit) (F : Fr) (H : Heap) : Option (Exit × List (Option Value) × Heap) := some (e, ts.map F.get, H.take k)
theorem see_slots : ∀ {F1 F2 : Fr}, (F2.map (·.1)).map F1.get = F2.map (fun e => some e.2) → ∀ e ∈ F2, F1.get e.1 = some e.2
  | F1, [], h, e, he => by cases he
  | F1, x :: r, h, e, he => by
    simp only [List.map_cons, List.cons.injEq] at h
    rcases List.mem_cons.1 he with rfl | he
    · exact h.1
    · exact see_slots h.2 e he
theorem RowOK.of_see {P : Program} {C : Ctx} (hC : CtxOK P C) {m j lo n f : Nat} {p : Nat → Bool} {l : List Code} {F F2 : Fr} {H H2 : Heap} {e : Exit} {k : Nat} {ts : List Nat} (hts : F2.map (·.1) = ts) (hd : l.all (drawsOK (C.dr f)) = true)
    (h : runL (C.at_ f) (callK C m) j lo n f p l F H (see ts k) = some (e, F2.map (fun e => some e.2), H2)) (hk : H.length ≤ k) (hl : H2.length = k) (hF : ∀ x ∈ F2, Tr k x.2) (hH : ∀ b, some b ∈ H2 → b.view = none ∧ ∀ x ∈ b.cells, Tr k x) : RowOK P lo n l F H e F2 H2 := by
  subst hts
  obtain ⟨e1, F1, H1, h1, h2⟩ := runL_sound (hC.at_ f) (call := callK C m) (fun lo f args H K r h => callK_sound hC m lo f args H K r h) l hd F H _ h
  simp only [see, Option.some.injEq, Prod.mk.injEq] at h1
  obtain ⟨rfl, h3, h4⟩ := h1
  have hk1 : k ≤ H1.length := by
    have := congrArg List.length h4
    rw [hl, List.length_take] at this
    omega
  have hget : ∀ i, i < k → H1[i]? = H2[i]? := fun i hi => by rw [← h4, List.getElem?_take_of_lt hi]
  refine h2.retell (List.range k) (fun i hi => range_get (by omega)) (fun s hs => by simp at hs; omega) (fun i j s a b => ?_) (fun i s a hi => ?_) (by simp [hl]) (fun i b' hb => ?_) (fun x hx => ⟨x.2, see_slots h3 x hx, fun M u hM hv => hF x hx M u (by omega) hv⟩)
  · have ha := (List.getElem?_eq_some_iff.1 a).1
    have hb := (List.getElem?_eq_some_iff.1 b).1
    simp at ha hb
    rw [range_get ha] at a; rw [range_get hb] at b
    cases a; cases b; rfl
  · have ha := (List.getElem?_eq_some_iff.1 a).1
    simp at ha
    rw [range_get ha] at a; cases a; exact hi
  · have hi : i < k := by rw [← hl]; exact (List.getElem?_eq_some_iff.1 hb).1
    obtain ⟨hv, hc⟩ := hH b' (List.mem_of_getElem? hb)
    refine ⟨i, b', range_get hi, by rw [hget i hi]; exact hb, rfl, hv, Nat.le_refl _, fun M us hM hu => ?_⟩
    have := Tr.vrs hc (by omega) hu
    rwa [List.take_of_length_le (by rw [hu.length]; exact Nat.le_refl _)]
end Go.Proofs.Ytbcikaoklpekhaa.Ab
