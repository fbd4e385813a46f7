/- Words and their instructions: isa.fits, decode, Decode, told for every word. Written by gen_isa.py. -/
import Derived.Test.YtbcikaoklpekhaaAbC
import Derived.Test.YtbcikaoklpekhaaAb16
namespace Go.Proofs.Ytbcikaoklpekhaa.Ab
open Go Go.RowKit
set_option linter.unusedVariables false
set_option linter.unusedSimpArgs false
set_option maxRecDepth 100000
/-- A part of a word. -/
def fl (w : Int) (d m : Int) : Int := bits .and .u32 (w.fdiv d) m
def headV (w : Int) : Value := .agg ⟨[.int .u32 (fl w 1 127), .int .u32 (fl w 128 31), .int .u32 (fl w 4096 7), .int .u32 (fl w 32768 31), .int .u32 (fl w 1048576 31), .int .u32 (fl w 33554432 127)]⟩
/-- The immediates, by their letters: what enc.Imm answers. -/
noncomputable def immF (c w : Int) : Int := match callK (ctx noΦ) 20 0 58 [.int .u8 c, .int .u32 w] [] (fun v _ => some v) with
  | some (.int _ n) => n
  | _ => 0
theorem splitOK (w : Int) : PureOK Try.prog 47 [.int .u32 w] (headV w) :=
  PureOK.of_run noOK (show callK (ctx noΦ) 20 0 47 [.int .u32 w] [] (fun v _ => some v) = some (headV w) by kernel_rfl) (Gh.plain rfl)
def bitsD (w lo n : Int) : Option Int := match lo, n with
  | 28, 4 => some (fl w 268435456 15)
  | 26, 1 => some (fl w 67108864 1)
  | 25, 1 => some (fl w 33554432 1)
  | 20, 12 => some (fl w 1048576 4095)
  | 20, 5 => some (fl w 1048576 31)
  | 20, 8 => some (fl w 1048576 255)
  | 15, 5 => some (fl w 32768 31)
  | _, _ => none
theorem gh_plains {l : List Value} (h : l.all plain = true) : ∀ a ∈ l, Gh a := fun a ha => Gh.plain (List.all_eq_true.1 h a ha)
theorem bitsOK {w lo n x : Int} (h : bitsD w lo n = some x) : PureOK Try.prog 48 [.int .u32 w, .int .i64 lo, .int .i64 n] (.int .u32 x) := by
  unfold bitsD at h
  split at h
  all_goals first
    | cases h; done
    | (cases h
       refine PureOK.of_run (m := 20) (lo := 0) noOK ?_ (Gh.plain rfl)
       kernel_rfl)
theorem immOK {c w : Int} (h : c = 85 ∨ c = 74 ∨ c = 73 ∨ c = 66 ∨ c = 83) : PureOK Try.prog 58 [.int .u8 c, .int .u32 w] (.int .u32 (immF c w)) := by
  rcases h with rfl | rfl | rfl | rfl | rfl
  all_goals
    refine PureOK.of_run (m := 20) (lo := 0) noOK ?_ (Gh.plain rfl)
    kernel_rfl
def isImm (c : Int) : Bool := c == 85 || (c == 74 || (c == 73 || (c == 66 || c == 83)))
noncomputable def isaΦ : Oracle := fun lo f args H => match f with
  | 47 => match args with
    | [.int .u32 w] => some [(true, headV w, H)]
    | _ => none
  | 48 => match args with
    | [.int .u32 w, .int .i64 l, .int .i64 n] => match bitsD w l n with
      | some x => some [(true, .int .u32 x, H)]
      | none => none
    | _ => none
  | 58 => match args with
    | [.int .u8 c, .int .u32 w] => some [(isImm c, .int .u32 (immF c w), H)]
    | _ => none
  | _ => none
theorem isaΦ_ok : CtxOK Try.prog (ctx isaΦ) := ctxOK fun lo f args H l v H' h hm => by
  unfold isaΦ at h
  split at h
  · split at h
    · cases h
      simp only [List.mem_cons, List.not_mem_nil, or_false, Prod.mk.injEq] at hm
      obtain ⟨_, rfl, rfl⟩ := hm
      exact ⟨(splitOK _).call (gh_plains rfl) lo H', rfl⟩
    · cases h
  · split at h
    · split at h
      · rename_i hx
        cases h
        simp only [List.mem_cons, List.not_mem_nil, or_false, Prod.mk.injEq] at hm
        obtain ⟨_, rfl, rfl⟩ := hm
        exact ⟨(bitsOK hx).call (gh_plains rfl) lo H', rfl⟩
      · cases h
    · cases h
  · split at h
    · cases h
      simp only [List.mem_cons, List.not_mem_nil, or_false, Prod.mk.injEq] at hm
      obtain ⟨hc, rfl, rfl⟩ := hm
      refine ⟨(immOK ?_).call (gh_plains rfl) lo H', rfl⟩
      have := hc.symm
      simp only [isImm, Bool.or_eq_true, beq_iff_eq] at this
      exact this
    · cases h
  · cases h
def rowV (op : Int) (s : ByteArray) (form opc f3 f7 kind : Int) : Value := .agg ⟨[.int .i64 op, .string s, .int .i64 form, .int .u32 opc, .int .u32 f3, .int .u32 f7, .int .i64 kind]⟩
def boolOf (v : Value) : Option Bool := match v with | .bool b => some b | _ => none
/-- Whether a word is of a row. -/
def fitsB (form opc f3 f7 w : Int) : Bool := match form with
  | 8 => w == opc
  | 0 => fl w 1 127 == opc
  | 1 => fl w 1 127 == opc
  | 5 => fl w 1 127 == opc && (fl w 4096 7 == f3 && fl w 33554432 127 == f7)
  | 6 => fl w 1 127 == opc && (fl w 4096 7 == f3 && fl w 33554432 127 == f7)
  | 7 => fl w 1 127 == opc && (fl w 4096 7 == f3 && (fl w 128 31 == 0 && (fl w 32768 31 == 0 && fl w 268435456 15 == 0)))
  | 9 => fl w 1 127 == opc && (fl w 4096 7 == f3 && (fl w 33554432 127 == f7 && fl w 128 31 == 0))
  | 12 => fl w 1 127 == opc && (fl w 4096 7 == f3 && ((fl w 33554432 127).fdiv 4 == f7 && fl w 1048576 31 == 0))
  | 13 => fl w 1 127 == opc && (fl w 4096 7 == f3 && (fl w 33554432 127).fdiv 4 == f7)
  | _ => fl w 1 127 == opc && fl w 4096 7 == f3
structure Inst where
  op : Int
  rd : Int
  rs1 : Int
  rs2 : Int
  csr : Int
  imm : Int
  aq : Bool
  rl : Bool
def instV (i : Inst) : Value := .agg ⟨[.int .i64 i.op, .int .i64 i.rd, .int .i64 i.rs1, .int .i64 i.rs2, .int .i64 i.csr, .int .u32 i.imm, .bool i.aq, .bool i.rl]⟩
def reg (w d : Int) : Int := IntKind.i64.wrap (fl w d 31)
/-- The instruction of a word that fits. -/
noncomputable def decI (form op w : Int) : Inst := match form with
  | 0 => ⟨op, reg w 128, 0, 0, 0, immF 85 w, false, false⟩
  | 1 => ⟨op, reg w 128, 0, 0, 0, immF 74 w, false, false⟩
  | 2 => ⟨op, reg w 128, reg w 32768, 0, 0, immF 73 w, false, false⟩
  | 3 => ⟨op, 0, reg w 32768, reg w 1048576, 0, immF 66 w, false, false⟩
  | 4 => ⟨op, 0, reg w 32768, reg w 1048576, 0, immF 83 w, false, false⟩
  | 5 => ⟨op, reg w 128, reg w 32768, 0, 0, fl w 1048576 31, false, false⟩
  | 6 => ⟨op, reg w 128, reg w 32768, reg w 1048576, 0, 0, false, false⟩
  | 7 => ⟨op, 0, 0, 0, 0, fl w 1048576 255, false, false⟩
  | 8 => ⟨op, 0, 0, 0, 0, 0, false, false⟩
  | 9 => ⟨op, 0, reg w 32768, reg w 1048576, 0, 0, false, false⟩
  | 10 => ⟨op, reg w 128, reg w 32768, 0, IntKind.i64.wrap (fl w 1048576 4095), 0, false, false⟩
  | 11 => ⟨op, reg w 128, 0, 0, IntKind.i64.wrap (fl w 1048576 4095), fl w 32768 31, false, false⟩
  | 12 => ⟨op, reg w 128, reg w 32768, 0, 0, 0, fl w 67108864 1 == 1, fl w 33554432 1 == 1⟩
  | 13 => ⟨op, reg w 128, reg w 32768, reg w 1048576, 0, 0, fl w 67108864 1 == 1, fl w 33554432 1 == 1⟩
  | _ => ⟨0, 0, 0, 0, 0, 0, false, false⟩
theorem bool_of_run {f : Nat} {args : List Value} {b : Bool} (h : callK (ctx isaΦ) 20 0 f args [] (fun v _ => boolOf v) = some b) : PureOK Try.prog f args (.bool b) := by
  obtain ⟨v, H', h1, h2, _⟩ := callK_sound isaΦ_ok _ _ _ _ _ _ _ h
  have : v = .bool b := by
    unfold boolOf at h1
    split at h1
    · cases h1; rfl
    · cases h1
  subst this
  exact PureOK.of_call h2 (Gh.plain rfl)
theorem fits_run0 (op : Int) (s : ByteArray) (opc f3 f7 kind w : Int) : callK (ctx isaΦ) 20 0 34 [rowV op s 0 opc f3 f7 kind, .int .u32 w] [] (fun v _ => boolOf v) = bif fl w 1 127 != opc then some false else some true := by kernel_rfl
theorem fits_ok0 (op : Int) (s : ByteArray) (opc f3 f7 kind w : Int) : PureOK Try.prog 34 [rowV op s 0 opc f3 f7 kind, .int .u32 w] (.bool (fitsB 0 opc f3 f7 w)) := by
  refine bool_of_run ?_
  rw [fits_run0]
  simp only [fitsB, bne]
  generalize (fl w 1 127 == opc) = b0
  cases b0 <;> rfl
theorem fits_run1 (op : Int) (s : ByteArray) (opc f3 f7 kind w : Int) : callK (ctx isaΦ) 20 0 34 [rowV op s 1 opc f3 f7 kind, .int .u32 w] [] (fun v _ => boolOf v) = bif fl w 1 127 != opc then some false else some true := by kernel_rfl
theorem fits_ok1 (op : Int) (s : ByteArray) (opc f3 f7 kind w : Int) : PureOK Try.prog 34 [rowV op s 1 opc f3 f7 kind, .int .u32 w] (.bool (fitsB 1 opc f3 f7 w)) := by
  refine bool_of_run ?_
  rw [fits_run1]
  simp only [fitsB, bne]
  generalize (fl w 1 127 == opc) = b0
  cases b0 <;> rfl
theorem fits_run2 (op : Int) (s : ByteArray) (opc f3 f7 kind w : Int) : callK (ctx isaΦ) 20 0 34 [rowV op s 2 opc f3 f7 kind, .int .u32 w] [] (fun v _ => boolOf v) = bif fl w 1 127 != opc then some false else bif fl w 4096 7 == f3 then some true else some false := by kernel_rfl
theorem fits_ok2 (op : Int) (s : ByteArray) (opc f3 f7 kind w : Int) : PureOK Try.prog 34 [rowV op s 2 opc f3 f7 kind, .int .u32 w] (.bool (fitsB 2 opc f3 f7 w)) := by
  refine bool_of_run ?_
  rw [fits_run2]
  simp only [fitsB, bne]
  generalize (fl w 1 127 == opc) = b0
  generalize (fl w 4096 7 == f3) = b1
  cases b0 <;> cases b1 <;> rfl
theorem fits_run3 (op : Int) (s : ByteArray) (opc f3 f7 kind w : Int) : callK (ctx isaΦ) 20 0 34 [rowV op s 3 opc f3 f7 kind, .int .u32 w] [] (fun v _ => boolOf v) = bif fl w 1 127 != opc then some false else bif fl w 4096 7 == f3 then some true else some false := by kernel_rfl
theorem fits_ok3 (op : Int) (s : ByteArray) (opc f3 f7 kind w : Int) : PureOK Try.prog 34 [rowV op s 3 opc f3 f7 kind, .int .u32 w] (.bool (fitsB 3 opc f3 f7 w)) := by
  refine bool_of_run ?_
  rw [fits_run3]
  simp only [fitsB, bne]
  generalize (fl w 1 127 == opc) = b0
  generalize (fl w 4096 7 == f3) = b1
  cases b0 <;> cases b1 <;> rfl
theorem fits_run4 (op : Int) (s : ByteArray) (opc f3 f7 kind w : Int) : callK (ctx isaΦ) 20 0 34 [rowV op s 4 opc f3 f7 kind, .int .u32 w] [] (fun v _ => boolOf v) = bif fl w 1 127 != opc then some false else bif fl w 4096 7 == f3 then some true else some false := by kernel_rfl
theorem fits_ok4 (op : Int) (s : ByteArray) (opc f3 f7 kind w : Int) : PureOK Try.prog 34 [rowV op s 4 opc f3 f7 kind, .int .u32 w] (.bool (fitsB 4 opc f3 f7 w)) := by
  refine bool_of_run ?_
  rw [fits_run4]
  simp only [fitsB, bne]
  generalize (fl w 1 127 == opc) = b0
  generalize (fl w 4096 7 == f3) = b1
  cases b0 <;> cases b1 <;> rfl
theorem fits_run5 (op : Int) (s : ByteArray) (opc f3 f7 kind w : Int) : callK (ctx isaΦ) 20 0 34 [rowV op s 5 opc f3 f7 kind, .int .u32 w] [] (fun v _ => boolOf v) = bif fl w 1 127 != opc then some false else bif fl w 4096 7 == f3 then bif fl w 33554432 127 == f7 then some true else some false else some false := by kernel_rfl
theorem fits_ok5 (op : Int) (s : ByteArray) (opc f3 f7 kind w : Int) : PureOK Try.prog 34 [rowV op s 5 opc f3 f7 kind, .int .u32 w] (.bool (fitsB 5 opc f3 f7 w)) := by
  refine bool_of_run ?_
  rw [fits_run5]
  simp only [fitsB, bne]
  generalize (fl w 1 127 == opc) = b0
  generalize (fl w 4096 7 == f3) = b1
  generalize (fl w 33554432 127 == f7) = b2
  cases b0 <;> cases b1 <;> cases b2 <;> rfl
theorem fits_run6 (op : Int) (s : ByteArray) (opc f3 f7 kind w : Int) : callK (ctx isaΦ) 20 0 34 [rowV op s 6 opc f3 f7 kind, .int .u32 w] [] (fun v _ => boolOf v) = bif fl w 1 127 != opc then some false else bif fl w 4096 7 == f3 then bif fl w 33554432 127 == f7 then some true else some false else some false := by kernel_rfl
theorem fits_ok6 (op : Int) (s : ByteArray) (opc f3 f7 kind w : Int) : PureOK Try.prog 34 [rowV op s 6 opc f3 f7 kind, .int .u32 w] (.bool (fitsB 6 opc f3 f7 w)) := by
  refine bool_of_run ?_
  rw [fits_run6]
  simp only [fitsB, bne]
  generalize (fl w 1 127 == opc) = b0
  generalize (fl w 4096 7 == f3) = b1
  generalize (fl w 33554432 127 == f7) = b2
  cases b0 <;> cases b1 <;> cases b2 <;> rfl
theorem fits_run7 (op : Int) (s : ByteArray) (opc f3 f7 kind w : Int) : callK (ctx isaΦ) 20 0 34 [rowV op s 7 opc f3 f7 kind, .int .u32 w] [] (fun v _ => boolOf v) = bif fl w 1 127 != opc then some false else bif fl w 4096 7 == f3 then bif fl w 128 31 == 0 then bif fl w 32768 31 == 0 then bif fl w 268435456 15 == 0 then some true else some false else some false else some false else some false := by kernel_rfl
theorem fits_ok7 (op : Int) (s : ByteArray) (opc f3 f7 kind w : Int) : PureOK Try.prog 34 [rowV op s 7 opc f3 f7 kind, .int .u32 w] (.bool (fitsB 7 opc f3 f7 w)) := by
  refine bool_of_run ?_
  rw [fits_run7]
  simp only [fitsB, bne]
  generalize (fl w 1 127 == opc) = b0
  generalize (fl w 4096 7 == f3) = b1
  generalize (fl w 128 31 == 0) = b2
  generalize (fl w 32768 31 == 0) = b3
  generalize (fl w 268435456 15 == 0) = b4
  cases b0 <;> cases b1 <;> cases b2 <;> cases b3 <;> cases b4 <;> rfl
theorem fits_run8 (op : Int) (s : ByteArray) (opc f3 f7 kind w : Int) : callK (ctx isaΦ) 20 0 34 [rowV op s 8 opc f3 f7 kind, .int .u32 w] [] (fun v _ => boolOf v) = bif w == opc then some true else some false := by kernel_rfl
theorem fits_ok8 (op : Int) (s : ByteArray) (opc f3 f7 kind w : Int) : PureOK Try.prog 34 [rowV op s 8 opc f3 f7 kind, .int .u32 w] (.bool (fitsB 8 opc f3 f7 w)) := by
  refine bool_of_run ?_
  rw [fits_run8]
  simp only [fitsB, bne]
  generalize (w == opc) = b0
  cases b0 <;> rfl
theorem fits_run9 (op : Int) (s : ByteArray) (opc f3 f7 kind w : Int) : callK (ctx isaΦ) 20 0 34 [rowV op s 9 opc f3 f7 kind, .int .u32 w] [] (fun v _ => boolOf v) = bif fl w 1 127 != opc then some false else bif fl w 4096 7 == f3 then bif fl w 33554432 127 == f7 then bif fl w 128 31 == 0 then some true else some false else some false else some false := by kernel_rfl
theorem fits_ok9 (op : Int) (s : ByteArray) (opc f3 f7 kind w : Int) : PureOK Try.prog 34 [rowV op s 9 opc f3 f7 kind, .int .u32 w] (.bool (fitsB 9 opc f3 f7 w)) := by
  refine bool_of_run ?_
  rw [fits_run9]
  simp only [fitsB, bne]
  generalize (fl w 1 127 == opc) = b0
  generalize (fl w 4096 7 == f3) = b1
  generalize (fl w 33554432 127 == f7) = b2
  generalize (fl w 128 31 == 0) = b3
  cases b0 <;> cases b1 <;> cases b2 <;> cases b3 <;> rfl
theorem fits_run10 (op : Int) (s : ByteArray) (opc f3 f7 kind w : Int) : callK (ctx isaΦ) 20 0 34 [rowV op s 10 opc f3 f7 kind, .int .u32 w] [] (fun v _ => boolOf v) = bif fl w 1 127 != opc then some false else bif fl w 4096 7 == f3 then some true else some false := by kernel_rfl
theorem fits_ok10 (op : Int) (s : ByteArray) (opc f3 f7 kind w : Int) : PureOK Try.prog 34 [rowV op s 10 opc f3 f7 kind, .int .u32 w] (.bool (fitsB 10 opc f3 f7 w)) := by
  refine bool_of_run ?_
  rw [fits_run10]
  simp only [fitsB, bne]
  generalize (fl w 1 127 == opc) = b0
  generalize (fl w 4096 7 == f3) = b1
  cases b0 <;> cases b1 <;> rfl
theorem fits_run11 (op : Int) (s : ByteArray) (opc f3 f7 kind w : Int) : callK (ctx isaΦ) 20 0 34 [rowV op s 11 opc f3 f7 kind, .int .u32 w] [] (fun v _ => boolOf v) = bif fl w 1 127 != opc then some false else bif fl w 4096 7 == f3 then some true else some false := by kernel_rfl
theorem fits_ok11 (op : Int) (s : ByteArray) (opc f3 f7 kind w : Int) : PureOK Try.prog 34 [rowV op s 11 opc f3 f7 kind, .int .u32 w] (.bool (fitsB 11 opc f3 f7 w)) := by
  refine bool_of_run ?_
  rw [fits_run11]
  simp only [fitsB, bne]
  generalize (fl w 1 127 == opc) = b0
  generalize (fl w 4096 7 == f3) = b1
  cases b0 <;> cases b1 <;> rfl
theorem fits_run12 (op : Int) (s : ByteArray) (opc f3 f7 kind w : Int) : callK (ctx isaΦ) 20 0 34 [rowV op s 12 opc f3 f7 kind, .int .u32 w] [] (fun v _ => boolOf v) = bif fl w 1 127 != opc then some false else bif fl w 4096 7 == f3 then bif (fl w 33554432 127).fdiv 4 == f7 then bif fl w 1048576 31 == 0 then some true else some false else some false else some false := by kernel_rfl
theorem fits_ok12 (op : Int) (s : ByteArray) (opc f3 f7 kind w : Int) : PureOK Try.prog 34 [rowV op s 12 opc f3 f7 kind, .int .u32 w] (.bool (fitsB 12 opc f3 f7 w)) := by
  refine bool_of_run ?_
  rw [fits_run12]
  simp only [fitsB, bne]
  generalize (fl w 1 127 == opc) = b0
  generalize (fl w 4096 7 == f3) = b1
  generalize ((fl w 33554432 127).fdiv 4 == f7) = b2
  generalize (fl w 1048576 31 == 0) = b3
  cases b0 <;> cases b1 <;> cases b2 <;> cases b3 <;> rfl
theorem fits_run13 (op : Int) (s : ByteArray) (opc f3 f7 kind w : Int) : callK (ctx isaΦ) 20 0 34 [rowV op s 13 opc f3 f7 kind, .int .u32 w] [] (fun v _ => boolOf v) = bif fl w 1 127 != opc then some false else bif fl w 4096 7 == f3 then bif (fl w 33554432 127).fdiv 4 == f7 then some true else some false else some false := by kernel_rfl
theorem fits_ok13 (op : Int) (s : ByteArray) (opc f3 f7 kind w : Int) : PureOK Try.prog 34 [rowV op s 13 opc f3 f7 kind, .int .u32 w] (.bool (fitsB 13 opc f3 f7 w)) := by
  refine bool_of_run ?_
  rw [fits_run13]
  simp only [fitsB, bne]
  generalize (fl w 1 127 == opc) = b0
  generalize (fl w 4096 7 == f3) = b1
  generalize ((fl w 33554432 127).fdiv 4 == f7) = b2
  cases b0 <;> cases b1 <;> cases b2 <;> rfl
theorem dec_ok0 (op : Int) (s : ByteArray) (opc f3 f7 kind w : Int) : PureOK Try.prog 35 [rowV op s 0 opc f3 f7 kind, .int .u32 w] (instV (decI 0 op w)) :=
  PureOK.of_run isaΦ_ok (show callK (ctx isaΦ) 20 0 35 [rowV op s 0 opc f3 f7 kind, .int .u32 w] [] (fun v _ => some v) = some (instV (decI 0 op w)) by kernel_rfl) (Gh.plain rfl)
theorem dec_ok1 (op : Int) (s : ByteArray) (opc f3 f7 kind w : Int) : PureOK Try.prog 35 [rowV op s 1 opc f3 f7 kind, .int .u32 w] (instV (decI 1 op w)) :=
  PureOK.of_run isaΦ_ok (show callK (ctx isaΦ) 20 0 35 [rowV op s 1 opc f3 f7 kind, .int .u32 w] [] (fun v _ => some v) = some (instV (decI 1 op w)) by kernel_rfl) (Gh.plain rfl)
theorem dec_ok2 (op : Int) (s : ByteArray) (opc f3 f7 kind w : Int) : PureOK Try.prog 35 [rowV op s 2 opc f3 f7 kind, .int .u32 w] (instV (decI 2 op w)) :=
  PureOK.of_run isaΦ_ok (show callK (ctx isaΦ) 20 0 35 [rowV op s 2 opc f3 f7 kind, .int .u32 w] [] (fun v _ => some v) = some (instV (decI 2 op w)) by kernel_rfl) (Gh.plain rfl)
theorem dec_ok3 (op : Int) (s : ByteArray) (opc f3 f7 kind w : Int) : PureOK Try.prog 35 [rowV op s 3 opc f3 f7 kind, .int .u32 w] (instV (decI 3 op w)) :=
  PureOK.of_run isaΦ_ok (show callK (ctx isaΦ) 20 0 35 [rowV op s 3 opc f3 f7 kind, .int .u32 w] [] (fun v _ => some v) = some (instV (decI 3 op w)) by kernel_rfl) (Gh.plain rfl)
theorem dec_ok4 (op : Int) (s : ByteArray) (opc f3 f7 kind w : Int) : PureOK Try.prog 35 [rowV op s 4 opc f3 f7 kind, .int .u32 w] (instV (decI 4 op w)) :=
  PureOK.of_run isaΦ_ok (show callK (ctx isaΦ) 20 0 35 [rowV op s 4 opc f3 f7 kind, .int .u32 w] [] (fun v _ => some v) = some (instV (decI 4 op w)) by kernel_rfl) (Gh.plain rfl)
theorem dec_ok5 (op : Int) (s : ByteArray) (opc f3 f7 kind w : Int) : PureOK Try.prog 35 [rowV op s 5 opc f3 f7 kind, .int .u32 w] (instV (decI 5 op w)) :=
  PureOK.of_run isaΦ_ok (show callK (ctx isaΦ) 20 0 35 [rowV op s 5 opc f3 f7 kind, .int .u32 w] [] (fun v _ => some v) = some (instV (decI 5 op w)) by kernel_rfl) (Gh.plain rfl)
theorem dec_ok6 (op : Int) (s : ByteArray) (opc f3 f7 kind w : Int) : PureOK Try.prog 35 [rowV op s 6 opc f3 f7 kind, .int .u32 w] (instV (decI 6 op w)) :=
  PureOK.of_run isaΦ_ok (show callK (ctx isaΦ) 20 0 35 [rowV op s 6 opc f3 f7 kind, .int .u32 w] [] (fun v _ => some v) = some (instV (decI 6 op w)) by kernel_rfl) (Gh.plain rfl)
theorem dec_ok7 (op : Int) (s : ByteArray) (opc f3 f7 kind w : Int) : PureOK Try.prog 35 [rowV op s 7 opc f3 f7 kind, .int .u32 w] (instV (decI 7 op w)) :=
  PureOK.of_run isaΦ_ok (show callK (ctx isaΦ) 20 0 35 [rowV op s 7 opc f3 f7 kind, .int .u32 w] [] (fun v _ => some v) = some (instV (decI 7 op w)) by kernel_rfl) (Gh.plain rfl)
theorem dec_ok8 (op : Int) (s : ByteArray) (opc f3 f7 kind w : Int) : PureOK Try.prog 35 [rowV op s 8 opc f3 f7 kind, .int .u32 w] (instV (decI 8 op w)) :=
  PureOK.of_run isaΦ_ok (show callK (ctx isaΦ) 20 0 35 [rowV op s 8 opc f3 f7 kind, .int .u32 w] [] (fun v _ => some v) = some (instV (decI 8 op w)) by kernel_rfl) (Gh.plain rfl)
theorem dec_ok9 (op : Int) (s : ByteArray) (opc f3 f7 kind w : Int) : PureOK Try.prog 35 [rowV op s 9 opc f3 f7 kind, .int .u32 w] (instV (decI 9 op w)) :=
  PureOK.of_run isaΦ_ok (show callK (ctx isaΦ) 20 0 35 [rowV op s 9 opc f3 f7 kind, .int .u32 w] [] (fun v _ => some v) = some (instV (decI 9 op w)) by kernel_rfl) (Gh.plain rfl)
theorem dec_ok10 (op : Int) (s : ByteArray) (opc f3 f7 kind w : Int) : PureOK Try.prog 35 [rowV op s 10 opc f3 f7 kind, .int .u32 w] (instV (decI 10 op w)) :=
  PureOK.of_run isaΦ_ok (show callK (ctx isaΦ) 20 0 35 [rowV op s 10 opc f3 f7 kind, .int .u32 w] [] (fun v _ => some v) = some (instV (decI 10 op w)) by kernel_rfl) (Gh.plain rfl)
theorem dec_ok11 (op : Int) (s : ByteArray) (opc f3 f7 kind w : Int) : PureOK Try.prog 35 [rowV op s 11 opc f3 f7 kind, .int .u32 w] (instV (decI 11 op w)) :=
  PureOK.of_run isaΦ_ok (show callK (ctx isaΦ) 20 0 35 [rowV op s 11 opc f3 f7 kind, .int .u32 w] [] (fun v _ => some v) = some (instV (decI 11 op w)) by kernel_rfl) (Gh.plain rfl)
theorem dec_run12 (op : Int) (s : ByteArray) (opc f3 f7 kind w : Int) : callK (ctx isaΦ) 20 0 35 [rowV op s 12 opc f3 f7 kind, .int .u32 w] [] (fun v _ => some v) =
    bif fl w 67108864 1 == 1 then (bif fl w 33554432 1 == 1 then some (instV ⟨op, reg w 128, reg w 32768, 0, 0, 0, true, true⟩) else some (instV ⟨op, reg w 128, reg w 32768, 0, 0, 0, true, false⟩)) else (bif fl w 33554432 1 == 1 then some (instV ⟨op, reg w 128, reg w 32768, 0, 0, 0, false, true⟩) else some (instV ⟨op, reg w 128, reg w 32768, 0, 0, 0, false, false⟩)) := by kernel_rfl
theorem dec_ok12 (op : Int) (s : ByteArray) (opc f3 f7 kind w : Int) : PureOK Try.prog 35 [rowV op s 12 opc f3 f7 kind, .int .u32 w] (instV (decI 12 op w)) := by
  refine PureOK.of_run (m := 20) (lo := 0) isaΦ_ok ?_ (Gh.plain rfl)
  rw [dec_run12]
  simp only [decI]
  generalize (fl w 67108864 1 == 1) = a
  generalize (fl w 33554432 1 == 1) = b
  cases a <;> cases b <;> rfl
theorem dec_run13 (op : Int) (s : ByteArray) (opc f3 f7 kind w : Int) : callK (ctx isaΦ) 20 0 35 [rowV op s 13 opc f3 f7 kind, .int .u32 w] [] (fun v _ => some v) =
    bif fl w 67108864 1 == 1 then (bif fl w 33554432 1 == 1 then some (instV ⟨op, reg w 128, reg w 32768, reg w 1048576, 0, 0, true, true⟩) else some (instV ⟨op, reg w 128, reg w 32768, reg w 1048576, 0, 0, true, false⟩)) else (bif fl w 33554432 1 == 1 then some (instV ⟨op, reg w 128, reg w 32768, reg w 1048576, 0, 0, false, true⟩) else some (instV ⟨op, reg w 128, reg w 32768, reg w 1048576, 0, 0, false, false⟩)) := by kernel_rfl
theorem dec_ok13 (op : Int) (s : ByteArray) (opc f3 f7 kind w : Int) : PureOK Try.prog 35 [rowV op s 13 opc f3 f7 kind, .int .u32 w] (instV (decI 13 op w)) := by
  refine PureOK.of_run (m := 20) (lo := 0) isaΦ_ok ?_ (Gh.plain rfl)
  rw [dec_run13]
  simp only [decI]
  generalize (fl w 67108864 1 == 1) = a
  generalize (fl w 33554432 1 == 1) = b
  cases a <;> cases b <;> rfl
theorem forms {k : Int} (h : (decide (0 ≤ k) && decide (k ≤ 13)) = true) : k = 0 ∨ k = 1 ∨ k = 2 ∨ k = 3 ∨ k = 4 ∨ k = 5 ∨ k = 6 ∨ k = 7 ∨ k = 8 ∨ k = 9 ∨ k = 10 ∨ k = 11 ∨ k = 12 ∨ k = 13 := by
  simp only [Bool.and_eq_true, decide_eq_true_eq] at h
  omega
theorem fitsOK (op : Int) (s : ByteArray) (k opc f3 f7 kind w : Int) (h : (decide (0 ≤ k) && decide (k ≤ 13)) = true) : PureOK Try.prog 34 [rowV op s k opc f3 f7 kind, .int .u32 w] (.bool (fitsB k opc f3 f7 w)) := by
  rcases forms h with rfl | rfl | rfl | rfl | rfl | rfl | rfl | rfl | rfl | rfl | rfl | rfl | rfl | rfl
  · exact fits_ok0 _ _ _ _ _ _ _
  · exact fits_ok1 _ _ _ _ _ _ _
  · exact fits_ok2 _ _ _ _ _ _ _
  · exact fits_ok3 _ _ _ _ _ _ _
  · exact fits_ok4 _ _ _ _ _ _ _
  · exact fits_ok5 _ _ _ _ _ _ _
  · exact fits_ok6 _ _ _ _ _ _ _
  · exact fits_ok7 _ _ _ _ _ _ _
  · exact fits_ok8 _ _ _ _ _ _ _
  · exact fits_ok9 _ _ _ _ _ _ _
  · exact fits_ok10 _ _ _ _ _ _ _
  · exact fits_ok11 _ _ _ _ _ _ _
  · exact fits_ok12 _ _ _ _ _ _ _
  · exact fits_ok13 _ _ _ _ _ _ _
theorem decOK (op : Int) (s : ByteArray) (k opc f3 f7 kind w : Int) (h : (decide (0 ≤ k) && decide (k ≤ 13)) = true) : PureOK Try.prog 35 [rowV op s k opc f3 f7 kind, .int .u32 w] (instV (decI k op w)) := by
  rcases forms h with rfl | rfl | rfl | rfl | rfl | rfl | rfl | rfl | rfl | rfl | rfl | rfl | rfl | rfl
  · exact dec_ok0 _ _ _ _ _ _ _
  · exact dec_ok1 _ _ _ _ _ _ _
  · exact dec_ok2 _ _ _ _ _ _ _
  · exact dec_ok3 _ _ _ _ _ _ _
  · exact dec_ok4 _ _ _ _ _ _ _
  · exact dec_ok5 _ _ _ _ _ _ _
  · exact dec_ok6 _ _ _ _ _ _ _
  · exact dec_ok7 _ _ _ _ _ _ _
  · exact dec_ok8 _ _ _ _ _ _ _
  · exact dec_ok9 _ _ _ _ _ _ _
  · exact dec_ok10 _ _ _ _ _ _ _
  · exact dec_ok11 _ _ _ _ _ _ _
  · exact dec_ok12 _ _ _ _ _ _ _
  · exact dec_ok13 _ _ _ _ _ _ _
structure Row where
  op : Int
  form : Int
  opc : Int
  f3 : Int
  f7 : Int
  kind : Int
def table : List Row := [⟨1, 0, 55, 0, 0, 1⟩, ⟨2, 0, 23, 0, 0, 1⟩, ⟨3, 1, 111, 0, 0, 2⟩, ⟨4, 2, 103, 0, 0, 2⟩, ⟨5, 3, 99, 0, 0, 3⟩, ⟨6, 3, 99, 1, 0, 3⟩, ⟨7, 3, 99, 4, 0, 3⟩, ⟨8, 3, 99, 5, 0, 3⟩, ⟨9, 3, 99, 6, 0, 3⟩, ⟨10, 3, 99, 7, 0, 3⟩, ⟨11, 2, 3, 0, 0, 4⟩, ⟨12, 2, 3, 1, 0, 4⟩, ⟨13, 2, 3, 2, 0, 4⟩, ⟨14, 2, 3, 4, 0, 4⟩, ⟨15, 2, 3, 5, 0, 4⟩, ⟨16, 4, 35, 0, 0, 5⟩, ⟨17, 4, 35, 1, 0, 5⟩, ⟨18, 4, 35, 2, 0, 5⟩, ⟨19, 2, 19, 0, 0, 1⟩, ⟨20, 2, 19, 2, 0, 1⟩, ⟨21, 2, 19, 3, 0, 1⟩, ⟨22, 2, 19, 4, 0, 1⟩, ⟨23, 2, 19, 6, 0, 1⟩, ⟨24, 2, 19, 7, 0, 1⟩, ⟨25, 5, 19, 1, 0, 1⟩, ⟨26, 5, 19, 5, 0, 1⟩, ⟨27, 5, 19, 5, 32, 1⟩, ⟨28, 6, 51, 0, 0, 1⟩, ⟨29, 6, 51, 0, 32, 1⟩, ⟨30, 6, 51, 1, 0, 1⟩, ⟨31, 6, 51, 2, 0, 1⟩, ⟨32, 6, 51, 3, 0, 1⟩, ⟨33, 6, 51, 4, 0, 1⟩, ⟨34, 6, 51, 5, 0, 1⟩, ⟨35, 6, 51, 5, 32, 1⟩, ⟨36, 6, 51, 6, 0, 1⟩, ⟨37, 6, 51, 7, 0, 1⟩, ⟨38, 7, 15, 0, 0, 7⟩, ⟨39, 8, 4111, 0, 0, 7⟩, ⟨40, 8, 115, 0, 0, 7⟩, ⟨41, 8, 1048691, 0, 0, 7⟩, ⟨42, 8, 807403635, 0, 0, 7⟩, ⟨43, 8, 273678451, 0, 0, 7⟩, ⟨44, 9, 115, 0, 9, 7⟩, ⟨45, 10, 115, 1, 0, 7⟩, ⟨46, 10, 115, 2, 0, 7⟩, ⟨47, 10, 115, 3, 0, 7⟩, ⟨48, 11, 115, 5, 0, 7⟩, ⟨49, 11, 115, 6, 0, 7⟩, ⟨50, 11, 115, 7, 0, 7⟩, ⟨51, 6, 51, 0, 1, 1⟩, ⟨52, 6, 51, 1, 1, 1⟩, ⟨53, 6, 51, 2, 1, 1⟩, ⟨54, 6, 51, 3, 1, 1⟩, ⟨55, 6, 51, 4, 1, 1⟩, ⟨56, 6, 51, 5, 1, 1⟩, ⟨57, 6, 51, 6, 1, 1⟩, ⟨58, 6, 51, 7, 1, 1⟩, ⟨59, 12, 47, 2, 2, 4⟩, ⟨60, 13, 47, 2, 3, 6⟩, ⟨61, 13, 47, 2, 1, 6⟩, ⟨62, 13, 47, 2, 0, 6⟩, ⟨63, 13, 47, 2, 4, 6⟩, ⟨64, 13, 47, 2, 12, 6⟩, ⟨65, 13, 47, 2, 8, 6⟩, ⟨66, 13, 47, 2, 16, 6⟩, ⟨67, 13, 47, 2, 20, 6⟩, ⟨68, 13, 47, 2, 24, 6⟩, ⟨69, 13, 47, 2, 28, 6⟩]
noncomputable def decL : List Row → Int → Inst × Bool
  | [], _ => (⟨0, 0, 0, 0, 0, 0, false, false⟩, false)
  | r :: l, w => bif fitsB r.form r.opc r.f3 r.f7 w then (decI r.form r.op w, true) else decL l w
noncomputable def decO : List Row → Int → Option Value
  | [], _ => some (.tuple ⟨[instV ⟨0, 0, 0, 0, 0, 0, false, false⟩, .bool false]⟩)
  | r :: l, w => bif fitsB r.form r.opc r.f3 r.f7 w then some (.tuple ⟨[instV (decI r.form r.op w), .bool true]⟩) else decO l w
theorem decO_eq (l : List Row) (w : Int) : decO l w = some (.tuple ⟨[instV (decL l w).1, .bool (decL l w).2]⟩) := by
  induction l with
  | nil => rfl
  | cons r l ih =>
    simp only [decO, decL]
    cases fitsB r.form r.opc r.f3 r.f7 w
    · exact ih
    · rfl
noncomputable def decΦ : Oracle := fun lo f args H => match f with
  | 34 => match args with
    | [.agg ⟨[.int .i64 op, .string s, .int .i64 k, .int .u32 opc, .int .u32 f3, .int .u32 f7, .int .i64 kind]⟩, .int .u32 w] => some [(decide (0 ≤ k) && decide (k ≤ 13), .bool (fitsB k opc f3 f7 w), H)]
    | _ => none
  | 35 => match args with
    | [.agg ⟨[.int .i64 op, .string s, .int .i64 k, .int .u32 opc, .int .u32 f3, .int .u32 f7, .int .i64 kind]⟩, .int .u32 w] => some [(decide (0 ≤ k) && decide (k ≤ 13), instV (decI k op w), H)]
    | _ => none
  | _ => none
theorem decΦ_ok : CtxOK Try.prog (ctx decΦ) := ctxOK fun lo f args H l v H' h hm => by
  unfold decΦ at h
  split at h
  · split at h
    · cases h
      simp only [List.mem_cons, List.not_mem_nil, or_false, Prod.mk.injEq] at hm
      obtain ⟨hc, rfl, rfl⟩ := hm
      exact ⟨(fitsOK _ _ _ _ _ _ _ _ hc.symm).call (gh_plains rfl) lo H', rfl⟩
    · cases h
  · split at h
    · cases h
      simp only [List.mem_cons, List.not_mem_nil, or_false, Prod.mk.injEq] at hm
      obtain ⟨hc, rfl, rfl⟩ := hm
      exact ⟨(decOK _ _ _ _ _ _ _ _ hc.symm).call (gh_plains rfl) lo H', rfl⟩
    · cases h
  · cases h
end Go.Proofs.Ytbcikaoklpekhaa.Ab
