/- Trimmed: AsmRow -/
import Derived.Test.YtgkicojmgokinaaGreatDoorRows
import Derived.Test.YtgkicojmgokinaaGreatDoorAsmFirst0
import Derived.HandedShaped
import Derived.Shelf.Vars
import Derived.Stop.LaidErr
import Derived.LaidLaws
import Derived.Lib.LaidTab
import Derived.MakeChecks
import Derived.Lay
namespace Go.Proofs.YtgkicojmgokinaaGreatDoor
open Go Go.RowKit Go.ChangeShapes Go.WideShapes
set_option linter.unusedVariables false
set_option linter.unusedSimpArgs false
set_option maxRecDepth 100000
theorem own : ownKnob Tryz.prog.godebug = none := by kernel_rfl
theorem laidOut : laidOutB Tryz.prog = true := by kernel_rfl
theorem returns_laid_shaped {H : Type} {enc : TypeId × Value → H} {a : Assume} {C : Checked} {os : Os} {f : FuncId} {fn : Func} {s : ChangeSpec} {conds : List PathCond} {apart fresh handsOn again : Bool} {X : World → Array Value → Prop}
    (hX : ∀ (w w' : World) (args : Array Value), w.heap = w'.heap → X w args → X w' args)
    (own : ownKnob C.prog.godebug = none) (started : os.Started) (noInit : C.prog.inits.idxOf? f = none) (hfn : C.prog.funcs[f]? = some fn)
    (witness : ∃ (w : World) (tape : Tape) (i : Input), w.os = os ∧ (w.forCall tape i).Shaped C.prog ∧ i.vars = [] ∧ Input.okWide C.prog (w.forCall tape i) .any w.heap.size f i ∧
      ((s.pre enc C.prog fn conds apart (w.forCall tape i).memory i.args ∧ X (w.forCall tape i).memory i.args) ∧ sizedMet enc C.prog fn (OpenSpec.ofChange s) apart (w.forCall tape i).memory i.args) ∧ a.holds C.prog (lone (Frame.enter C.prog f i.args .normal) [] (w.forCall tape i)))
    (contract : ∀ (W : World) (base : Nat) (args : Array Value) (ds gs : List (DataW H)) (before : List MemPlace),
      (∀ (j : Nat) t v, fn.params[j]? = some t → args[j]? = some v → Value.okWide C.prog W .any base t v) →
      DataW.Whole enc C.prog fn.params.toList s.vars apart W args.toList ds gs before →
      conds.all (PathCond.test C.prog ⟨fn.params.toList, ds, s.plain.varTypes C.prog, gs⟩) = true →
      (DataW.weightsEach C.prog (fn.params.toList ++ s.plain.varTypes C.prog) (ds ++ gs)).all (· ≤ reachBytes) = true → X W args → W.ShapedOpen C.prog →
      Calls C.prog f args W fun e W' => ∃ v, e = .returned v ∧ s.post enc C.prog fn apart fresh handsOn again W args v W') :
    ReturnsInHanded a C os f .any (fun w args => (s.pre enc C.prog fn conds apart w args ∧ X w args) ∧ sizedMet enc C.prog fn (OpenSpec.ofChange s) apart w args) (s.post enc C.prog fn apart fresh handsOn again) := by
  refine returnsInHanded_of_calls own started noInit witness ?_
  intro w tape i _ hsh _ hok hpre _
  obtain ⟨_, _, _, fn', hfn', _, _, _, _, hval⟩ := hok
  have e : fn' = fn := Option.some.inj (hfn'.symm.trans hfn)
  subst e
  obtain ⟨⟨⟨ds, gs, before, hw, hc⟩, hx⟩, hz⟩ := hpre
  have hw' := DataW.Whole.of_heap (w' := w.forCall tape i) (by rfl) hw
  refine (contract (w.forCall tape i) w.heap.size i.args ds gs before hval hw' hc (hz.weights hw) (hX _ _ _ (by rfl) hx) hsh).mono fun e W' ⟨v, he, hp⟩ => ?_
  subst he
  exact ChangeSpec.post_blind hp
abbrev errD (text : List UInt8) : DataW Unit := .iface "*errors.errorString" (.ptr (.agg [.lit (.string text)]))
theorem star : "*" ++ "errors.errorString" = "*errors.errorString" := by decide
theorem row196 (u : TypeId) (h : Tryz.prog.typeName? 3 u = some "*errors.errorString") : u = 196 :=
  typeName_ptr_named (nm := "errors.errorString") (by rw [star]; kernel_rfl) (by kernel_rfl) (by decide) u (by rw [star]; exact h)
theorem cells198 : Tryz.prog.cellsOf 198 = 1 := by kernel_rfl
theorem cells9 : Tryz.prog.cellsOf 9 = 1 := by kernel_rfl
structure Sent (W : World) (n : String) (g : Nat) (ps : List MemPlace) (a : Addr) : Prop where
  var : W.var? Tryz.prog n = some #[.iface 196 (.pointer (some a))]
  mem : MemPlace.cell a.block a.off ∈ ps
  own : ∃ c t, W.heap[g]? = some (.cells c t (0, 0))
  blk : ∃ c t, W.heap[a.block]? = some (.cells c t (0, 0))
theorem sents {W : World} : ∀ (l : List (String × DataW Unit)) (ps : List MemPlace), DataW.LaidVars Tryz.prog W l ps → ps.Nodup →
    (∀ b off, MemPlace.cell b off ∈ ps → (∃ c t, W.heap[b]? = some (.cells c t (0, 0))) ∧ ∀ u v, W.cell? ⟨b, off, none⟩ = some (.iface u v) → Value.okWide Tryz.prog W .any 0 u v) →
    (∀ n text g, (n, errD text) ∈ l → Tryz.prog.globalNamed n = some g → (Tryz.prog.globals[g]?).map (·.type) = some 27 → ∃ a, Sent W n g ps a) ∧
    (∀ n n' text text' g g' a a', (n, errD text) ∈ l → (n', errD text') ∈ l → Tryz.prog.globalNamed n = some g → (Tryz.prog.globals[g]?).map (·.type) = some 27 → Tryz.prog.globalNamed n' = some g' → (Tryz.prog.globals[g']?).map (·.type) = some 27 →
      W.var? Tryz.prog n = some #[.iface 196 (.pointer (some a))] → W.var? Tryz.prog n' = some #[.iface 196 (.pointer (some a'))] → a = a' → n = n')
  | [], ps, hv, hnd, hr => ⟨fun n text g h => (by cases h), fun n n' text text' g g' a a' h => (by cases h)⟩
  | (m, d) :: l, ps, hv, hnd, hr => by
    obtain ⟨g0, t0, cs0, f0, p, q, hg0, ht0, hv0, hd0, hq, rfl⟩ := hv
    have hndq : q.Nodup := List.Nodup.sublist (List.sublist_append_right _ _) hnd
    have hrq : ∀ b off, MemPlace.cell b off ∈ q → (∃ c t, W.heap[b]? = some (.cells c t (0, 0))) ∧ ∀ u v, W.cell? ⟨b, off, none⟩ = some (.iface u v) → Value.okWide Tryz.prog W .any 0 u v := fun b off hm => hr b off (List.mem_append_right _ hm)
    obtain ⟨ih1, ih2⟩ := sents l q hq hndq hrq
    have head : ∀ text g, d = errD text → Tryz.prog.globalNamed m = some g → (Tryz.prog.globals[g]?).map (·.type) = some 27 → ∃ a, Sent W m g p a := by
      intro text g hd hg ht
      subst hd
      obtain rfl := Option.some.inj (hg.symm.trans hg0)
      obtain rfl := Option.some.inj (ht.symm.trans ht0)
      obtain ⟨l0⟩ := cs0
      have ok0 : ∀ u v, l0 = [.iface u v] → Value.okWide Tryz.prog W .any 0 u v := fun u v e => by
        subst e
        exact (hr g 0 (by simp [MemPlace.row])).2 u v (by simpa using World.var?_cell hg0 hv0 0)
      obtain ⟨a0, s0, rfl, hc0, hs0, hz0, rfl⟩ := errorString_of_trod Tryz.underlying27 row196 Tryz.underlying196 Tryz.underlying198 rfl rfl Tryz.underlying9 cells198 cells9 hd0 ok0
      exact ⟨a0, hv0, by simp [MemPlace.row], (hr g 0 (by simp [MemPlace.row])).1, (hr a0.block a0.off (by simp [MemPlace.row])).1⟩
    have dis : ∀ x, x ∈ p → x ∈ q → False := fun x h1 h2 => (List.nodup_append.1 hnd).2.2 x (List.mem_append_right _ h1) x h2 rfl
    have same : ∀ {n : String} {a b : Addr}, W.var? Tryz.prog n = some #[.iface 196 (.pointer (some a))] → W.var? Tryz.prog n = some #[.iface 196 (.pointer (some b))] → a = b := fun h1 h2 => by
      rw [h1] at h2
      simpa using h2
    refine ⟨fun n text g h hg ht => ?_, fun n n' text text' g g' a a' h h' hg ht hg' ht' hva hva' haa => ?_⟩
    · rcases List.mem_cons.1 h with h | h
      · obtain ⟨rfl, rfl⟩ := Prod.mk.inj h
        obtain ⟨a, h1, h2, h3, h4⟩ := head text g rfl hg ht
        exact ⟨a, h1, List.mem_append_left _ (List.mem_append_right _ h2), h3, h4⟩
      · obtain ⟨a, h1, h2, h3, h4⟩ := ih1 n text g h hg ht
        exact ⟨a, h1, List.mem_append_right _ h2, h3, h4⟩
    · rcases List.mem_cons.1 h with hA | hA <;> rcases List.mem_cons.1 h' with hB | hB
      · exact (Prod.mk.inj hA).1.trans (Prod.mk.inj hB).1.symm
      · obtain ⟨rfl, rfl⟩ := Prod.mk.inj hA
        obtain ⟨b, h1, h2, _, _⟩ := head text g rfl hg ht
        obtain ⟨c, h3, h4, _, _⟩ := ih1 n' text' g' hB hg' ht'
        have e1 := same hva h1
        have e2 := same hva' h3
        subst e1; subst e2; subst haa
        exact (dis _ h2 h4).elim
      · obtain ⟨rfl, rfl⟩ := Prod.mk.inj hB
        obtain ⟨b, h1, h2, _, _⟩ := head text' g' rfl hg' ht'
        obtain ⟨c, h3, h4, _, _⟩ := ih1 n text g hA hg ht
        have e1 := same hva' h1
        have e2 := same hva h3
        subst e1; subst e2; subst haa
        exact (dis _ h2 h4).elim
      · exact ih2 n n' text text' g g' a a' hA hB hg ht hg' ht' hva hva' haa
def seatLaid : List (String × DataW Unit) := Rows.asmOneRow.laid
theorem pow10_data : (Rows.laid_internal_strconv_uint64pow10 : DataW Unit) = Lib.tabData .u64 Lib.pow10Tab := by kernel_rfl
def sentNames : List (Nat × String) := [(0, "corral/api.ErrWord"), (1, "corral/api.ErrKind"), (2, "corral/api.ErrRange"), (3, "corral/api.ErrShape"), (6, "corral/api.ErrMany"), (7, "corral/api.ErrPlace"), (8, "corral/api.ErrFull"), (9, "corral/api.ErrNone"), (10, "corral/api.ErrTrace"), (11, "corral/api.ErrOrder"), (12, "corral/api.ErrValue")]
theorem names_ok : sentNames.all (fun x => Tryz.prog.globalNamed x.2 == some x.1 && (Tryz.prog.globals[x.1]?).map (·.type) == some 27) = true := by kernel_rfl
theorem names_ok' {g : Nat} {n : String} (h : (g, n) ∈ sentNames) : Tryz.prog.globalNamed n = some g ∧ (Tryz.prog.globals[g]?).map (·.type) = some 27 := by
  have := List.all_eq_true.1 names_ok _ h
  simpa using this
theorem in_laid {g : Nat} {n : String} (h : (g, n) ∈ sentNames) : ∃ text, (n, errD text) ∈ seatLaid := by
  simp only [sentNames, List.mem_cons, List.not_mem_nil, or_false, Prod.mk.injEq] at h
  rcases h with ⟨rfl, rfl⟩ | ⟨rfl, rfl⟩ | ⟨rfl, rfl⟩ | ⟨rfl, rfl⟩ | ⟨rfl, rfl⟩ | ⟨rfl, rfl⟩ | ⟨rfl, rfl⟩ | ⟨rfl, rfl⟩ | ⟨rfl, rfl⟩ | ⟨rfl, rfl⟩ | ⟨rfl, rfl⟩
  all_goals exact ⟨_, by simp only [seatLaid, Rows.asmOneRow, Rows.laid_corral_api_ErrWord, Rows.laid_corral_api_ErrKind, Rows.laid_corral_api_ErrRange, Rows.laid_corral_api_ErrShape, Rows.laid_corral_api_ErrMany, Rows.laid_corral_api_ErrPlace, Rows.laid_corral_api_ErrFull, Rows.laid_corral_api_ErrNone, Rows.laid_corral_api_ErrTrace, Rows.laid_corral_api_ErrOrder, Rows.laid_corral_api_ErrValue, List.mem_cons, Prod.mk.injEq, true_and]; simp; rfl⟩
theorem snt_name {g : Nat} (h : g ∈ Ab.snts) : ∃ n, (g, n) ∈ sentNames := by
  simp only [Ab.snts, List.mem_cons, List.not_mem_nil, or_false] at h
  rcases h with rfl | rfl | rfl | rfl | rfl | rfl | rfl | rfl | rfl | rfl | rfl <;> exact ⟨_, by simp [sentNames]; rfl⟩
theorem var_block {W : World} {n : String} {g : Nat} {cs : Array Value} (hg : Tryz.prog.globalNamed n = some g) (h : W.var? Tryz.prog n = some cs) : ∃ t f, W.heap[g]? = some (.cells cs t f) := by
  unfold World.var? at h
  simp only [hg, Option.bind_some] at h
  split at h
  · rename_i c t f hc
    cases h
    exact ⟨t, f, hc⟩
  · cases h
theorem shape_block {W : World} (h : W.ShapedOpen Tryz.prog) {g : Nat} {zero : Array Value} {t : TypeId} (hg : g < Tryz.prog.globals.size) (h0 : ((begin Tryz.prog (fun _ _ => 0) default).world.heap[g]?).bind Obj.row? = some (zero, t)) : ∃ cs, W.heap[g]? = some (.cells cs t (0, 0)) := by
  obtain ⟨cs, hh, _⟩ := h.1 g zero t hg h0
  exact ⟨cs, hh⟩
theorem froz_one {W : World} {n : String} {g : Nat} {x : Value} (hg : Tryz.prog.globalNamed n = some g) (h : W.var? Tryz.prog n = some #[x]) (ho : ∃ c t, W.heap[g]? = some (.cells c t (0, 0))) : Ab.Froz W g 0 [x] := by
  obtain ⟨t, f, hb⟩ := var_block hg h
  obtain ⟨c, t', hb'⟩ := ho
  rw [hb] at hb'
  injection hb' with hb'
  injection hb' with h1 h2 h3
  subst h3
  exact ⟨[x], t, (0, 0), hb, by simp, by simp, Ab.Unfz.zero _ _⟩
theorem froz_nil {W : World} {r : Nat} {cs : Array Value} {t : TypeId} {f : Nat × Nat} (h : W.heap[r]? = some (.cells cs t f)) : Ab.Froz W r 0 [] :=
  ⟨cs.toList, t, f, by simpa using h, by simp, by simp, fun j h1 h2 => by (simp at h2)⟩
theorem syn_laid : ∃ text, ("strconv.ErrSyntax", errD text) ∈ seatLaid := ⟨_, by simp only [seatLaid, Rows.asmOneRow, Rows.laid_strconv_ErrSyntax, List.mem_cons, Prod.mk.injEq, true_and]; simp; rfl⟩
theorem rng_laid : ∃ text, ("strconv.ErrRange", errD text) ∈ seatLaid := ⟨_, by simp only [seatLaid, Rows.asmOneRow, Rows.laid_strconv_ErrRange, List.mem_cons, Prod.mk.injEq, true_and]; simp; rfl⟩
theorem globs_of {W : World} (hL : laidMet Tryz.prog seatLaid W) (hsh : W.ShapedOpen Tryz.prog) : Ab.Globs (Ab.Froz W) W := by
  have hL' := hL
  obtain ⟨ps, hv, hnd, hr⟩ := hL
  obtain ⟨S1, S2⟩ := sents _ _ hv hnd hr
  have ex : ∀ g : Nat, ∃ a : Addr, g ∈ Ab.snts → ∃ n, (g, n) ∈ sentNames ∧ Sent W n g ps a := fun g => by
    by_cases hg : g ∈ Ab.snts
    · obtain ⟨n, hn⟩ := snt_name hg
      obtain ⟨text, ht⟩ := in_laid hn
      obtain ⟨h1, h2⟩ := names_ok' hn
      obtain ⟨a, ha⟩ := S1 n text g ht h1 h2
      exact ⟨a, fun _ => ⟨n, hn, ha⟩⟩
    · exact ⟨⟨0, 0, none⟩, fun h => absurd h hg⟩
  obtain ⟨a, ha⟩ := Classical.axiomOfChoice ex
  refine ⟨⟨a, fun g hg => ?_, fun g hg g' hg' e => ?_⟩, ?_, ?_, ?_, ?_⟩
  · obtain ⟨n, hn, hs⟩ := ha g hg
    obtain ⟨c, t, hb⟩ := hs.blk
    exact ⟨froz_one (names_ok' hn).1 hs.var hs.own, froz_nil hb, c, t, hb⟩
  · obtain ⟨n, hn, hs⟩ := ha g hg
    obtain ⟨n', hn', hs'⟩ := ha g' hg'
    obtain ⟨text, ht⟩ := in_laid hn
    obtain ⟨text', ht'⟩ := in_laid hn'
    have := S2 n n' text text' g g' (a g) (a g') ht ht' (names_ok' hn).1 (names_ok' hn).2 (names_ok' hn').1 (names_ok' hn').2 hs.var hs'.var e
    subst this
    exact Option.some.inj ((names_ok' hn).1.symm.trans (names_ok' hn').1)
  · obtain ⟨m, hm⟩ := cell_of_shapedOpen_int (P := Tryz.prog) (g := 4) (t := 3) (zero := #[.int .i64 0]) (k := .i64) hsh (of_decide_eq_true (by kernel_rfl)) (by kernel_rfl) rfl (by kernel_rfl) (by kernel_rfl) Tryz.underlying3
    obtain ⟨cs, hb⟩ := shape_block (g := 4) (t := 3) (zero := #[.int .i64 0]) hsh (of_decide_eq_true (by kernel_rfl)) (by kernel_rfl)
    refine ⟨m, cs.toList, 3, (0, 0), by simpa using hb, ?_, ?_, Ab.Unfz.zero _ _⟩
    all_goals
      simp only [World.cell?, hb] at hm
      obtain ⟨l⟩ := cs
      cases l with
      | nil => simp at hm
      | cons x l => simp at hm ⊢; try exact hm
  · obtain ⟨text, ht⟩ := syn_laid
    have h1 : Tryz.prog.globalNamed "strconv.ErrSyntax" = some 15 := by kernel_rfl
    obtain ⟨b, hb⟩ := S1 _ text 15 ht h1 (by kernel_rfl)
    exact ⟨_, _, froz_one h1 hb.var hb.own⟩
  · obtain ⟨text, ht⟩ := rng_laid
    have h1 : Tryz.prog.globalNamed "strconv.ErrRange" = some 16 := by kernel_rfl
    obtain ⟨b, hb⟩ := S1 _ text 16 ht h1 (by kernel_rfl)
    exact ⟨_, _, froz_one h1 hb.var hb.own⟩
  · have h1 : Tryz.prog.globalNamed "internal/strconv.uint64pow10" = some 5 := by kernel_rfl
    have h3 : laidMet Tryz.prog (("internal/strconv.uint64pow10", Lib.tabData .u64 Lib.pow10Tab) :: seatLaid.drop 3) W := by
      have := hL'.tail.tail
      rw [← pow10_data]
      exact this
    have tab := Lib.tabIs_of_head (k := .u64) (zs := Lib.pow10Tab) (g := 5) (t := 174) (e := 136) (n := 20) h1 (by kernel_rfl) Tryz.underlying174 Tryz.underlying136 (by kernel_rfl) (by kernel_rfl) h3
    obtain ⟨t, f, hb⟩ := var_block h1 tab
    exact ⟨froz_nil hb, t, f, hb⟩
end Go.Proofs.YtgkicojmgokinaaGreatDoor
