/- An item's operation: Item.op told for every op. -/
import Derived.Test.YtbcikaoklpekhaaDepTab
namespace Go.Proofs.Ytbcikaoklpekhaa.Ab
open Go Go.RowKit
set_option linter.unusedVariables false
set_option linter.unusedSimpArgs false
set_option maxRecDepth 100000
structure Item where
  word : Int
  pa : Int
  load : Int
  value : Int
  done : Bool
  trap : Bool
def itemC (x : Item) : List Value := [.int .u32 x.word, .int .u32 x.pa, .int .u32 x.load, .int .u32 x.value, .bool x.done, .bool x.trap]
noncomputable def tabΦ : Oracle := fun lo f args H => match f with
  | 33 => match args with
    | [] => some [(true, gs 7 litCells 69, H)]
    | _ => none
  | 26 => match args with
    | [.int .i64 op] => some [(isOp op, .int .i64 (kindF op), H)]
    | _ => none
  | 37 => match args with
    | [.int .i64 op] => some [(isOp op, .int .i64 (sizeF op), H)]
    | _ => none
  | _ => none
theorem tabΦ_ok : CtxOK Try.prog (ctx tabΦ) := ctxOK fun lo f args H l v H' h hm => by
  unfold tabΦ at h
  split at h
  · split at h
    · cases h
      simp only [List.mem_cons, List.not_mem_nil, or_false, Prod.mk.injEq] at hm
      obtain ⟨hc, rfl, rfl⟩ := hm
      exact ⟨rowsOK.call (fun a h => by cases h) lo H', rfl⟩
    · cases h
  · split at h
    · cases h
      simp only [List.mem_cons, List.not_mem_nil, or_false, Prod.mk.injEq] at hm
      obtain ⟨hc, rfl, rfl⟩ := hm
      exact ⟨(kindOK hc.symm).call (gh_plains rfl) lo H', rfl⟩
    · cases h
  · split at h
    · cases h
      simp only [List.mem_cons, List.not_mem_nil, or_false, Prod.mk.injEq] at hm
      obtain ⟨hc, rfl, rfl⟩ := hm
      exact ⟨(sizeOK hc.symm).call (gh_plains rfl) lo H', rfl⟩
    · cases h
  · cases h
/-- What an operation has beside its lists. -/
structure OpT where
  kind : Int
  size : Int
  addr : Int
  value : Int
  got : Int
  paired : Bool
  aq : Bool
  rl : Bool
  pred : Int
  succ : Int
def opC (o : OpT) (a d c : Value) : List Value := [.int .i64 o.kind, .int .i64 o.size, .int .u32 o.addr, .int .u32 o.value, .int .u32 o.got, .bool o.paired, .bool o.aq, .bool o.rl, .int .i64 o.pred, .int .i64 o.succ, a, d, c]
def bitI (imm d : Int) : Int := IntKind.i64.wrap (fl imm d 1)
def two (imm a b : Int) : Int := IntKind.i64.wrap (bitI imm a + IntKind.i64.wrap (2 * bitI imm b))
def paired (op : Int) : Bool := op == 59 || op == 60
/-- An item's operation. -/
def opF (op imm : Int) (aq rl : Bool) (pa ld vl : Int) (dn : Bool) : OpT × Bool :=
  if kindF op = 4 then (⟨1, sizeF op, pa, 0, ld, paired op, aq, rl, 0, 0⟩, true)
  else if kindF op = 5 then (⟨2, sizeF op, pa, vl, 0, paired op, aq, rl, 0, 0⟩, true)
  else if kindF op = 6 then (if op = 60 then (⟨2, sizeF op, pa, vl, 0, paired op, aq, rl, 0, 0⟩, dn) else (⟨3, sizeF op, pa, vl, ld, paired op, aq, rl, 0, 0⟩, true))
  else if op = 38 then (⟨4, 0, 0, 0, 0, false, false, false, two imm 32 16, two imm 2 1⟩, true)
  else (⟨0, 0, 0, 0, 0, false, false, false, 0, 0⟩, false)
def opV (o : OpT × Bool) : Value := .tuple ⟨[.agg ⟨opC o.1 (.slice none 0 0) (.slice none 0 0) (.slice none 0 0)⟩, .bool o.2]⟩
def opR (k : Int) (i : Inst) (x : Item) (aq rl dn : Bool) : Option Value := some (opV (opF k i.imm aq rl x.pa x.load x.value dn))
def opT (k : Int) (i : Inst) (x : Item) (R : Bool → Bool → Option Value) : Option Value :=
  bif i.aq then (bif i.rl then R true true else R true false) else (bif i.rl then R false true else R false false)
noncomputable def opL (k : Int) (i : Inst) (x : Item) : Option Value := callK (ctx tabΦ) 20 2 27 [.agg ⟨itemC x⟩, instV { i with op := k }] [] (fun v _ => some v)
theorem opn1 (i : Inst) (x : Item) : opL 1 i x = opT 1 i x (fun a r => opR 1 i x a r true) := by kernel_rfl
theorem opn2 (i : Inst) (x : Item) : opL 2 i x = opT 2 i x (fun a r => opR 2 i x a r true) := by kernel_rfl
theorem opn3 (i : Inst) (x : Item) : opL 3 i x = opT 3 i x (fun a r => opR 3 i x a r true) := by kernel_rfl
theorem opn4 (i : Inst) (x : Item) : opL 4 i x = opT 4 i x (fun a r => opR 4 i x a r true) := by kernel_rfl
theorem opn5 (i : Inst) (x : Item) : opL 5 i x = opT 5 i x (fun a r => opR 5 i x a r true) := by kernel_rfl
theorem opn6 (i : Inst) (x : Item) : opL 6 i x = opT 6 i x (fun a r => opR 6 i x a r true) := by kernel_rfl
theorem opn7 (i : Inst) (x : Item) : opL 7 i x = opT 7 i x (fun a r => opR 7 i x a r true) := by kernel_rfl
theorem opn8 (i : Inst) (x : Item) : opL 8 i x = opT 8 i x (fun a r => opR 8 i x a r true) := by kernel_rfl
theorem opn9 (i : Inst) (x : Item) : opL 9 i x = opT 9 i x (fun a r => opR 9 i x a r true) := by kernel_rfl
theorem opn10 (i : Inst) (x : Item) : opL 10 i x = opT 10 i x (fun a r => opR 10 i x a r true) := by kernel_rfl
theorem opn11 (i : Inst) (x : Item) : opL 11 i x = opT 11 i x (fun a r => opR 11 i x a r true) := by kernel_rfl
theorem opn12 (i : Inst) (x : Item) : opL 12 i x = opT 12 i x (fun a r => opR 12 i x a r true) := by kernel_rfl
theorem opn13 (i : Inst) (x : Item) : opL 13 i x = opT 13 i x (fun a r => opR 13 i x a r true) := by kernel_rfl
theorem opn14 (i : Inst) (x : Item) : opL 14 i x = opT 14 i x (fun a r => opR 14 i x a r true) := by kernel_rfl
theorem opn15 (i : Inst) (x : Item) : opL 15 i x = opT 15 i x (fun a r => opR 15 i x a r true) := by kernel_rfl
theorem opn16 (i : Inst) (x : Item) : opL 16 i x = opT 16 i x (fun a r => opR 16 i x a r true) := by kernel_rfl
theorem opn17 (i : Inst) (x : Item) : opL 17 i x = opT 17 i x (fun a r => opR 17 i x a r true) := by kernel_rfl
theorem opn18 (i : Inst) (x : Item) : opL 18 i x = opT 18 i x (fun a r => opR 18 i x a r true) := by kernel_rfl
theorem opn19 (i : Inst) (x : Item) : opL 19 i x = opT 19 i x (fun a r => opR 19 i x a r true) := by kernel_rfl
theorem opn20 (i : Inst) (x : Item) : opL 20 i x = opT 20 i x (fun a r => opR 20 i x a r true) := by kernel_rfl
theorem opn21 (i : Inst) (x : Item) : opL 21 i x = opT 21 i x (fun a r => opR 21 i x a r true) := by kernel_rfl
theorem opn22 (i : Inst) (x : Item) : opL 22 i x = opT 22 i x (fun a r => opR 22 i x a r true) := by kernel_rfl
theorem opn23 (i : Inst) (x : Item) : opL 23 i x = opT 23 i x (fun a r => opR 23 i x a r true) := by kernel_rfl
theorem opn24 (i : Inst) (x : Item) : opL 24 i x = opT 24 i x (fun a r => opR 24 i x a r true) := by kernel_rfl
theorem opn25 (i : Inst) (x : Item) : opL 25 i x = opT 25 i x (fun a r => opR 25 i x a r true) := by kernel_rfl
theorem opn26 (i : Inst) (x : Item) : opL 26 i x = opT 26 i x (fun a r => opR 26 i x a r true) := by kernel_rfl
theorem opn27 (i : Inst) (x : Item) : opL 27 i x = opT 27 i x (fun a r => opR 27 i x a r true) := by kernel_rfl
theorem opn28 (i : Inst) (x : Item) : opL 28 i x = opT 28 i x (fun a r => opR 28 i x a r true) := by kernel_rfl
theorem opn29 (i : Inst) (x : Item) : opL 29 i x = opT 29 i x (fun a r => opR 29 i x a r true) := by kernel_rfl
theorem opn30 (i : Inst) (x : Item) : opL 30 i x = opT 30 i x (fun a r => opR 30 i x a r true) := by kernel_rfl
theorem opn31 (i : Inst) (x : Item) : opL 31 i x = opT 31 i x (fun a r => opR 31 i x a r true) := by kernel_rfl
theorem opn32 (i : Inst) (x : Item) : opL 32 i x = opT 32 i x (fun a r => opR 32 i x a r true) := by kernel_rfl
theorem opn33 (i : Inst) (x : Item) : opL 33 i x = opT 33 i x (fun a r => opR 33 i x a r true) := by kernel_rfl
theorem opn34 (i : Inst) (x : Item) : opL 34 i x = opT 34 i x (fun a r => opR 34 i x a r true) := by kernel_rfl
theorem opn35 (i : Inst) (x : Item) : opL 35 i x = opT 35 i x (fun a r => opR 35 i x a r true) := by kernel_rfl
theorem opn36 (i : Inst) (x : Item) : opL 36 i x = opT 36 i x (fun a r => opR 36 i x a r true) := by kernel_rfl
theorem opn37 (i : Inst) (x : Item) : opL 37 i x = opT 37 i x (fun a r => opR 37 i x a r true) := by kernel_rfl
theorem opn38 (i : Inst) (x : Item) : opL 38 i x = opT 38 i x (fun a r => opR 38 i x a r true) := by kernel_rfl
theorem opn39 (i : Inst) (x : Item) : opL 39 i x = opT 39 i x (fun a r => opR 39 i x a r true) := by kernel_rfl
theorem opn40 (i : Inst) (x : Item) : opL 40 i x = opT 40 i x (fun a r => opR 40 i x a r true) := by kernel_rfl
theorem opn41 (i : Inst) (x : Item) : opL 41 i x = opT 41 i x (fun a r => opR 41 i x a r true) := by kernel_rfl
theorem opn42 (i : Inst) (x : Item) : opL 42 i x = opT 42 i x (fun a r => opR 42 i x a r true) := by kernel_rfl
theorem opn43 (i : Inst) (x : Item) : opL 43 i x = opT 43 i x (fun a r => opR 43 i x a r true) := by kernel_rfl
theorem opn44 (i : Inst) (x : Item) : opL 44 i x = opT 44 i x (fun a r => opR 44 i x a r true) := by kernel_rfl
theorem opn45 (i : Inst) (x : Item) : opL 45 i x = opT 45 i x (fun a r => opR 45 i x a r true) := by kernel_rfl
theorem opn46 (i : Inst) (x : Item) : opL 46 i x = opT 46 i x (fun a r => opR 46 i x a r true) := by kernel_rfl
theorem opn47 (i : Inst) (x : Item) : opL 47 i x = opT 47 i x (fun a r => opR 47 i x a r true) := by kernel_rfl
theorem opn48 (i : Inst) (x : Item) : opL 48 i x = opT 48 i x (fun a r => opR 48 i x a r true) := by kernel_rfl
theorem opn49 (i : Inst) (x : Item) : opL 49 i x = opT 49 i x (fun a r => opR 49 i x a r true) := by kernel_rfl
theorem opn50 (i : Inst) (x : Item) : opL 50 i x = opT 50 i x (fun a r => opR 50 i x a r true) := by kernel_rfl
theorem opn51 (i : Inst) (x : Item) : opL 51 i x = opT 51 i x (fun a r => opR 51 i x a r true) := by kernel_rfl
theorem opn52 (i : Inst) (x : Item) : opL 52 i x = opT 52 i x (fun a r => opR 52 i x a r true) := by kernel_rfl
theorem opn53 (i : Inst) (x : Item) : opL 53 i x = opT 53 i x (fun a r => opR 53 i x a r true) := by kernel_rfl
theorem opn54 (i : Inst) (x : Item) : opL 54 i x = opT 54 i x (fun a r => opR 54 i x a r true) := by kernel_rfl
theorem opn55 (i : Inst) (x : Item) : opL 55 i x = opT 55 i x (fun a r => opR 55 i x a r true) := by kernel_rfl
theorem opn56 (i : Inst) (x : Item) : opL 56 i x = opT 56 i x (fun a r => opR 56 i x a r true) := by kernel_rfl
theorem opn57 (i : Inst) (x : Item) : opL 57 i x = opT 57 i x (fun a r => opR 57 i x a r true) := by kernel_rfl
theorem opn58 (i : Inst) (x : Item) : opL 58 i x = opT 58 i x (fun a r => opR 58 i x a r true) := by kernel_rfl
theorem opn59 (i : Inst) (x : Item) : opL 59 i x = opT 59 i x (fun a r => opR 59 i x a r true) := by kernel_rfl
theorem opn60 (i : Inst) (x : Item) : opL 60 i x = opT 60 i x (fun a r => bif x.done then opR 60 i x a r true else opR 60 i x a r false) := by kernel_rfl
theorem opn61 (i : Inst) (x : Item) : opL 61 i x = opT 61 i x (fun a r => opR 61 i x a r true) := by kernel_rfl
theorem opn62 (i : Inst) (x : Item) : opL 62 i x = opT 62 i x (fun a r => opR 62 i x a r true) := by kernel_rfl
theorem opn63 (i : Inst) (x : Item) : opL 63 i x = opT 63 i x (fun a r => opR 63 i x a r true) := by kernel_rfl
theorem opn64 (i : Inst) (x : Item) : opL 64 i x = opT 64 i x (fun a r => opR 64 i x a r true) := by kernel_rfl
theorem opn65 (i : Inst) (x : Item) : opL 65 i x = opT 65 i x (fun a r => opR 65 i x a r true) := by kernel_rfl
theorem opn66 (i : Inst) (x : Item) : opL 66 i x = opT 66 i x (fun a r => opR 66 i x a r true) := by kernel_rfl
theorem opn67 (i : Inst) (x : Item) : opL 67 i x = opT 67 i x (fun a r => opR 67 i x a r true) := by kernel_rfl
theorem opn68 (i : Inst) (x : Item) : opL 68 i x = opT 68 i x (fun a r => opR 68 i x a r true) := by kernel_rfl
theorem opn69 (i : Inst) (x : Item) : opL 69 i x = opT 69 i x (fun a r => opR 69 i x a r true) := by kernel_rfl
theorem opT_eq {k : Int} {i : Inst} {x : Item} {R : Bool → Bool → Option Value} {Q : Bool → Bool → Option Value} (h : ∀ a r, R a r = Q a r) : opT k i x R = Q i.aq i.rl := by
  unfold opT
  cases i.aq <;> cases i.rl <;> exact h _ _
theorem opAll (i : Inst) (x : Item) : ∀ k : Nat, k < 69 → opL ((k : Int) + 1) i x = some (opV (opF ((k : Int) + 1) i.imm i.aq i.rl x.pa x.load x.value x.done))
  | 0, _ => (opn1 i x).trans (opT_eq (Q := fun a r => some (opV (opF 1 i.imm a r x.pa x.load x.value x.done))) (fun a r => rfl))
  | 1, _ => (opn2 i x).trans (opT_eq (Q := fun a r => some (opV (opF 2 i.imm a r x.pa x.load x.value x.done))) (fun a r => rfl))
  | 2, _ => (opn3 i x).trans (opT_eq (Q := fun a r => some (opV (opF 3 i.imm a r x.pa x.load x.value x.done))) (fun a r => rfl))
  | 3, _ => (opn4 i x).trans (opT_eq (Q := fun a r => some (opV (opF 4 i.imm a r x.pa x.load x.value x.done))) (fun a r => rfl))
  | 4, _ => (opn5 i x).trans (opT_eq (Q := fun a r => some (opV (opF 5 i.imm a r x.pa x.load x.value x.done))) (fun a r => rfl))
  | 5, _ => (opn6 i x).trans (opT_eq (Q := fun a r => some (opV (opF 6 i.imm a r x.pa x.load x.value x.done))) (fun a r => rfl))
  | 6, _ => (opn7 i x).trans (opT_eq (Q := fun a r => some (opV (opF 7 i.imm a r x.pa x.load x.value x.done))) (fun a r => rfl))
  | 7, _ => (opn8 i x).trans (opT_eq (Q := fun a r => some (opV (opF 8 i.imm a r x.pa x.load x.value x.done))) (fun a r => rfl))
  | 8, _ => (opn9 i x).trans (opT_eq (Q := fun a r => some (opV (opF 9 i.imm a r x.pa x.load x.value x.done))) (fun a r => rfl))
  | 9, _ => (opn10 i x).trans (opT_eq (Q := fun a r => some (opV (opF 10 i.imm a r x.pa x.load x.value x.done))) (fun a r => rfl))
  | 10, _ => (opn11 i x).trans (opT_eq (Q := fun a r => some (opV (opF 11 i.imm a r x.pa x.load x.value x.done))) (fun a r => rfl))
  | 11, _ => (opn12 i x).trans (opT_eq (Q := fun a r => some (opV (opF 12 i.imm a r x.pa x.load x.value x.done))) (fun a r => rfl))
  | 12, _ => (opn13 i x).trans (opT_eq (Q := fun a r => some (opV (opF 13 i.imm a r x.pa x.load x.value x.done))) (fun a r => rfl))
  | 13, _ => (opn14 i x).trans (opT_eq (Q := fun a r => some (opV (opF 14 i.imm a r x.pa x.load x.value x.done))) (fun a r => rfl))
  | 14, _ => (opn15 i x).trans (opT_eq (Q := fun a r => some (opV (opF 15 i.imm a r x.pa x.load x.value x.done))) (fun a r => rfl))
  | 15, _ => (opn16 i x).trans (opT_eq (Q := fun a r => some (opV (opF 16 i.imm a r x.pa x.load x.value x.done))) (fun a r => rfl))
  | 16, _ => (opn17 i x).trans (opT_eq (Q := fun a r => some (opV (opF 17 i.imm a r x.pa x.load x.value x.done))) (fun a r => rfl))
  | 17, _ => (opn18 i x).trans (opT_eq (Q := fun a r => some (opV (opF 18 i.imm a r x.pa x.load x.value x.done))) (fun a r => rfl))
  | 18, _ => (opn19 i x).trans (opT_eq (Q := fun a r => some (opV (opF 19 i.imm a r x.pa x.load x.value x.done))) (fun a r => rfl))
  | 19, _ => (opn20 i x).trans (opT_eq (Q := fun a r => some (opV (opF 20 i.imm a r x.pa x.load x.value x.done))) (fun a r => rfl))
  | 20, _ => (opn21 i x).trans (opT_eq (Q := fun a r => some (opV (opF 21 i.imm a r x.pa x.load x.value x.done))) (fun a r => rfl))
  | 21, _ => (opn22 i x).trans (opT_eq (Q := fun a r => some (opV (opF 22 i.imm a r x.pa x.load x.value x.done))) (fun a r => rfl))
  | 22, _ => (opn23 i x).trans (opT_eq (Q := fun a r => some (opV (opF 23 i.imm a r x.pa x.load x.value x.done))) (fun a r => rfl))
  | 23, _ => (opn24 i x).trans (opT_eq (Q := fun a r => some (opV (opF 24 i.imm a r x.pa x.load x.value x.done))) (fun a r => rfl))
  | 24, _ => (opn25 i x).trans (opT_eq (Q := fun a r => some (opV (opF 25 i.imm a r x.pa x.load x.value x.done))) (fun a r => rfl))
  | 25, _ => (opn26 i x).trans (opT_eq (Q := fun a r => some (opV (opF 26 i.imm a r x.pa x.load x.value x.done))) (fun a r => rfl))
  | 26, _ => (opn27 i x).trans (opT_eq (Q := fun a r => some (opV (opF 27 i.imm a r x.pa x.load x.value x.done))) (fun a r => rfl))
  | 27, _ => (opn28 i x).trans (opT_eq (Q := fun a r => some (opV (opF 28 i.imm a r x.pa x.load x.value x.done))) (fun a r => rfl))
  | 28, _ => (opn29 i x).trans (opT_eq (Q := fun a r => some (opV (opF 29 i.imm a r x.pa x.load x.value x.done))) (fun a r => rfl))
  | 29, _ => (opn30 i x).trans (opT_eq (Q := fun a r => some (opV (opF 30 i.imm a r x.pa x.load x.value x.done))) (fun a r => rfl))
  | 30, _ => (opn31 i x).trans (opT_eq (Q := fun a r => some (opV (opF 31 i.imm a r x.pa x.load x.value x.done))) (fun a r => rfl))
  | 31, _ => (opn32 i x).trans (opT_eq (Q := fun a r => some (opV (opF 32 i.imm a r x.pa x.load x.value x.done))) (fun a r => rfl))
  | 32, _ => (opn33 i x).trans (opT_eq (Q := fun a r => some (opV (opF 33 i.imm a r x.pa x.load x.value x.done))) (fun a r => rfl))
  | 33, _ => (opn34 i x).trans (opT_eq (Q := fun a r => some (opV (opF 34 i.imm a r x.pa x.load x.value x.done))) (fun a r => rfl))
  | 34, _ => (opn35 i x).trans (opT_eq (Q := fun a r => some (opV (opF 35 i.imm a r x.pa x.load x.value x.done))) (fun a r => rfl))
  | 35, _ => (opn36 i x).trans (opT_eq (Q := fun a r => some (opV (opF 36 i.imm a r x.pa x.load x.value x.done))) (fun a r => rfl))
  | 36, _ => (opn37 i x).trans (opT_eq (Q := fun a r => some (opV (opF 37 i.imm a r x.pa x.load x.value x.done))) (fun a r => rfl))
  | 37, _ => (opn38 i x).trans (opT_eq (Q := fun a r => some (opV (opF 38 i.imm a r x.pa x.load x.value x.done))) (fun a r => rfl))
  | 38, _ => (opn39 i x).trans (opT_eq (Q := fun a r => some (opV (opF 39 i.imm a r x.pa x.load x.value x.done))) (fun a r => rfl))
  | 39, _ => (opn40 i x).trans (opT_eq (Q := fun a r => some (opV (opF 40 i.imm a r x.pa x.load x.value x.done))) (fun a r => rfl))
  | 40, _ => (opn41 i x).trans (opT_eq (Q := fun a r => some (opV (opF 41 i.imm a r x.pa x.load x.value x.done))) (fun a r => rfl))
  | 41, _ => (opn42 i x).trans (opT_eq (Q := fun a r => some (opV (opF 42 i.imm a r x.pa x.load x.value x.done))) (fun a r => rfl))
  | 42, _ => (opn43 i x).trans (opT_eq (Q := fun a r => some (opV (opF 43 i.imm a r x.pa x.load x.value x.done))) (fun a r => rfl))
  | 43, _ => (opn44 i x).trans (opT_eq (Q := fun a r => some (opV (opF 44 i.imm a r x.pa x.load x.value x.done))) (fun a r => rfl))
  | 44, _ => (opn45 i x).trans (opT_eq (Q := fun a r => some (opV (opF 45 i.imm a r x.pa x.load x.value x.done))) (fun a r => rfl))
  | 45, _ => (opn46 i x).trans (opT_eq (Q := fun a r => some (opV (opF 46 i.imm a r x.pa x.load x.value x.done))) (fun a r => rfl))
  | 46, _ => (opn47 i x).trans (opT_eq (Q := fun a r => some (opV (opF 47 i.imm a r x.pa x.load x.value x.done))) (fun a r => rfl))
  | 47, _ => (opn48 i x).trans (opT_eq (Q := fun a r => some (opV (opF 48 i.imm a r x.pa x.load x.value x.done))) (fun a r => rfl))
  | 48, _ => (opn49 i x).trans (opT_eq (Q := fun a r => some (opV (opF 49 i.imm a r x.pa x.load x.value x.done))) (fun a r => rfl))
  | 49, _ => (opn50 i x).trans (opT_eq (Q := fun a r => some (opV (opF 50 i.imm a r x.pa x.load x.value x.done))) (fun a r => rfl))
  | 50, _ => (opn51 i x).trans (opT_eq (Q := fun a r => some (opV (opF 51 i.imm a r x.pa x.load x.value x.done))) (fun a r => rfl))
  | 51, _ => (opn52 i x).trans (opT_eq (Q := fun a r => some (opV (opF 52 i.imm a r x.pa x.load x.value x.done))) (fun a r => rfl))
  | 52, _ => (opn53 i x).trans (opT_eq (Q := fun a r => some (opV (opF 53 i.imm a r x.pa x.load x.value x.done))) (fun a r => rfl))
  | 53, _ => (opn54 i x).trans (opT_eq (Q := fun a r => some (opV (opF 54 i.imm a r x.pa x.load x.value x.done))) (fun a r => rfl))
  | 54, _ => (opn55 i x).trans (opT_eq (Q := fun a r => some (opV (opF 55 i.imm a r x.pa x.load x.value x.done))) (fun a r => rfl))
  | 55, _ => (opn56 i x).trans (opT_eq (Q := fun a r => some (opV (opF 56 i.imm a r x.pa x.load x.value x.done))) (fun a r => rfl))
  | 56, _ => (opn57 i x).trans (opT_eq (Q := fun a r => some (opV (opF 57 i.imm a r x.pa x.load x.value x.done))) (fun a r => rfl))
  | 57, _ => (opn58 i x).trans (opT_eq (Q := fun a r => some (opV (opF 58 i.imm a r x.pa x.load x.value x.done))) (fun a r => rfl))
  | 58, _ => (opn59 i x).trans (opT_eq (Q := fun a r => some (opV (opF 59 i.imm a r x.pa x.load x.value x.done))) (fun a r => rfl))
  | 59, _ => (opn60 i x).trans (opT_eq (Q := fun a r => some (opV (opF 60 i.imm a r x.pa x.load x.value x.done))) (fun a r => by cases x.done <;> rfl))
  | 60, _ => (opn61 i x).trans (opT_eq (Q := fun a r => some (opV (opF 61 i.imm a r x.pa x.load x.value x.done))) (fun a r => rfl))
  | 61, _ => (opn62 i x).trans (opT_eq (Q := fun a r => some (opV (opF 62 i.imm a r x.pa x.load x.value x.done))) (fun a r => rfl))
  | 62, _ => (opn63 i x).trans (opT_eq (Q := fun a r => some (opV (opF 63 i.imm a r x.pa x.load x.value x.done))) (fun a r => rfl))
  | 63, _ => (opn64 i x).trans (opT_eq (Q := fun a r => some (opV (opF 64 i.imm a r x.pa x.load x.value x.done))) (fun a r => rfl))
  | 64, _ => (opn65 i x).trans (opT_eq (Q := fun a r => some (opV (opF 65 i.imm a r x.pa x.load x.value x.done))) (fun a r => rfl))
  | 65, _ => (opn66 i x).trans (opT_eq (Q := fun a r => some (opV (opF 66 i.imm a r x.pa x.load x.value x.done))) (fun a r => rfl))
  | 66, _ => (opn67 i x).trans (opT_eq (Q := fun a r => some (opV (opF 67 i.imm a r x.pa x.load x.value x.done))) (fun a r => rfl))
  | 67, _ => (opn68 i x).trans (opT_eq (Q := fun a r => some (opV (opF 68 i.imm a r x.pa x.load x.value x.done))) (fun a r => rfl))
  | 68, _ => (opn69 i x).trans (opT_eq (Q := fun a r => some (opV (opF 69 i.imm a r x.pa x.load x.value x.done))) (fun a r => rfl))
  | n + 69, h => absurd h (by omega)
theorem opOK (i : Inst) (x : Item) (h : isOp i.op = true) : PureOK Try.prog 27 [.agg ⟨itemC x⟩, instV i] (opV (opF i.op i.imm i.aq i.rl x.pa x.load x.value x.done)) :=
  ops (p := fun op => PureOK Try.prog 27 [.agg ⟨itemC x⟩, instV { i with op := op }] (opV (opF op i.imm i.aq i.rl x.pa x.load x.value x.done))) (fun k hk => PureOK.of_run tabΦ_ok (opAll i x k hk) (Gh.plain rfl)) h
end Go.Proofs.Ytbcikaoklpekhaa.Ab
