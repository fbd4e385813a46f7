/- Trimmed: AsmDecode -/
import Derived.Test.YtgkicojmgokinaaGreatDoorAsmEncode
import Derived.Test.YtgkicojmgokinaaGreatDoorAb19
namespace Go.Proofs.YtgkicojmgokinaaGreatDoor.Ab.Isa
open Go Go.RowKit
set_option linter.unusedVariables false
set_option linter.unusedSimpArgs false
set_option maxRecDepth 100000
def fl (w : Int) (d m : Int) : Int := bits .and .u32 (w.fdiv d) m
def headV (w : Int) : Value := .agg ⟨[.int .u32 (fl w 1 127), .int .u32 (fl w 128 31), .int .u32 (fl w 4096 7), .int .u32 (fl w 32768 31), .int .u32 (fl w 1048576 31), .int .u32 (fl w 33554432 127)]⟩
theorem splitOK (w : Int) : PureOK Tryz.prog 106 [.int .u32 w] (headV w) :=
  PureOK.of_run noOK (show callK (ctx noΦ) 20 0 106 [.int .u32 w] [] (fun v _ => some v) = some (headV w) by kernel_rfl) (Gh.plain rfl)
def bitsD (w lo n : Int) : Option Int := match lo, n with
  | 28, 4 => some (fl w 268435456 15)
  | 26, 1 => some (fl w 67108864 1)
  | 25, 1 => some (fl w 33554432 1)
  | 20, 12 => some (fl w 1048576 4095)
  | 20, 5 => some (fl w 1048576 31)
  | 20, 8 => some (fl w 1048576 255)
  | 15, 5 => some (fl w 32768 31)
  | _, _ => none
theorem bitsOK {w lo n x : Int} (h : bitsD w lo n = some x) : PureOK Tryz.prog 61 [.int .u32 w, .int .i64 lo, .int .i64 n] (.int .u32 x) := by
  unfold bitsD at h
  split at h
  all_goals first
    | cases h; done
    | (cases h
       refine PureOK.of_run (m := 20) (lo := 0) noOK ?_ (Gh.plain rfl)
       kernel_rfl)
noncomputable def isaΦ : Oracle := fun lo f args H => match f with
  | 106 => match args with
    | [.int .u32 w] => some [(true, headV w, H)]
    | _ => none
  | 61 => match args with
    | [.int .u32 w, .int .i64 l, .int .i64 n] => match bitsD w l n with
      | some x => some [(true, .int .u32 x, H)]
      | none => none
    | _ => none
  | 112 => match args with
    | [.int .u8 c, .int .u32 w] => some [(isFmt c, .int .u32 (immV c w), H)]
    | _ => none
  | _ => none
theorem isaΦ_ok : CtxOK Tryz.prog (ctx isaΦ) := ctxOK fun lo f args H l v H' h hm => by
  unfold isaΦ at h
  split at h
  · split at h
    · cases h
      simp only [List.mem_cons, List.not_mem_nil, or_false, Prod.mk.injEq] at hm
      obtain ⟨_, rfl, rfl⟩ := hm
      exact ⟨(splitOK _).call (gh_plains rfl) lo H', rfl⟩
    · cases h
  · split at h
    · split at h
      · rename_i hx
        cases h
        simp only [List.mem_cons, List.not_mem_nil, or_false, Prod.mk.injEq] at hm
        obtain ⟨_, rfl, rfl⟩ := hm
        exact ⟨(bitsOK hx).call (gh_plains rfl) lo H', rfl⟩
      · cases h
    · cases h
  · split at h
    · cases h
      simp only [List.mem_cons, List.not_mem_nil, or_false, Prod.mk.injEq] at hm
      obtain ⟨hc, rfl, rfl⟩ := hm
      exact ⟨(immOK hc.symm).call (gh_plains rfl) lo H', rfl⟩
    · cases h
  · cases h
def rowV (op : Int) (s : ByteArray) (form opc f3 f7 kind : Int) : Value := .agg ⟨[.int .i64 op, .string s, .int .i64 form, .int .u32 opc, .int .u32 f3, .int .u32 f7, .int .i64 kind]⟩
def boolOf (v : Value) : Option Bool := match v with | .bool b => some b | _ => none
def fitsB (form opc f3 f7 w : Int) : Bool := match form with
  | 8 => w == opc
  | 0 => fl w 1 127 == opc
  | 1 => fl w 1 127 == opc
  | 5 => fl w 1 127 == opc && (fl w 4096 7 == f3 && fl w 33554432 127 == f7)
  | 6 => fl w 1 127 == opc && (fl w 4096 7 == f3 && fl w 33554432 127 == f7)
  | 7 => fl w 1 127 == opc && (fl w 4096 7 == f3 && (fl w 128 31 == 0 && (fl w 32768 31 == 0 && fl w 268435456 15 == 0)))
  | 9 => fl w 1 127 == opc && (fl w 4096 7 == f3 && (fl w 33554432 127 == f7 && fl w 128 31 == 0))
  | 12 => fl w 1 127 == opc && (fl w 4096 7 == f3 && ((fl w 33554432 127).fdiv 4 == f7 && fl w 1048576 31 == 0))
  | 13 => fl w 1 127 == opc && (fl w 4096 7 == f3 && (fl w 33554432 127).fdiv 4 == f7)
  | _ => fl w 1 127 == opc && fl w 4096 7 == f3
def reg (w d : Int) : Int := IntKind.i64.wrap (fl w d 31)
noncomputable def decI (form op w : Int) : Inst := match form with
  | 0 => ⟨op, reg w 128, 0, 0, 0, immV 85 w, false, false⟩
  | 1 => ⟨op, reg w 128, 0, 0, 0, immV 74 w, false, false⟩
  | 2 => ⟨op, reg w 128, reg w 32768, 0, 0, immV 73 w, false, false⟩
  | 3 => ⟨op, 0, reg w 32768, reg w 1048576, 0, immV 66 w, false, false⟩
  | 4 => ⟨op, 0, reg w 32768, reg w 1048576, 0, immV 83 w, false, false⟩
  | 5 => ⟨op, reg w 128, reg w 32768, 0, 0, fl w 1048576 31, false, false⟩
  | 6 => ⟨op, reg w 128, reg w 32768, reg w 1048576, 0, 0, false, false⟩
  | 7 => ⟨op, 0, 0, 0, 0, fl w 1048576 255, false, false⟩
  | 8 => ⟨op, 0, 0, 0, 0, 0, false, false⟩
  | 9 => ⟨op, 0, reg w 32768, reg w 1048576, 0, 0, false, false⟩
  | 10 => ⟨op, reg w 128, reg w 32768, 0, IntKind.i64.wrap (fl w 1048576 4095), 0, false, false⟩
  | 11 => ⟨op, reg w 128, 0, 0, IntKind.i64.wrap (fl w 1048576 4095), fl w 32768 31, false, false⟩
  | 12 => ⟨op, reg w 128, reg w 32768, 0, 0, 0, fl w 67108864 1 == 1, fl w 33554432 1 == 1⟩
  | 13 => ⟨op, reg w 128, reg w 32768, reg w 1048576, 0, 0, fl w 67108864 1 == 1, fl w 33554432 1 == 1⟩
  | _ => ⟨0, 0, 0, 0, 0, 0, false, false⟩
theorem bool_of_run {f : Nat} {args : List Value} {b : Bool} (h : callK (ctx isaΦ) 20 0 f args [] (fun v _ => boolOf v) = some b) : PureOK Tryz.prog f args (.bool b) := by
  obtain ⟨v, H', h1, h2, _⟩ := callK_sound isaΦ_ok _ _ _ _ _ _ _ h
  have : v = .bool b := by
    unfold boolOf at h1
    split at h1
    · cases h1; rfl
    · cases h1
  subst this
  exact PureOK.of_call h2 (Gh.plain rfl)
theorem fits_run0 (op : Int) (s : ByteArray) (opc f3 f7 kind w : Int) : callK (ctx isaΦ) 20 0 81 [rowV op s 0 opc f3 f7 kind, .int .u32 w] [] (fun v _ => boolOf v) = bif fl w 1 127 != opc then some false else some true := by kernel_rfl
theorem fits_ok0 (op : Int) (s : ByteArray) (opc f3 f7 kind w : Int) : PureOK Tryz.prog 81 [rowV op s 0 opc f3 f7 kind, .int .u32 w] (.bool (fitsB 0 opc f3 f7 w)) := by
  refine bool_of_run ?_
  rw [fits_run0]
  simp only [fitsB, bne]
  generalize (fl w 1 127 == opc) = b0
  cases b0 <;> rfl
theorem fits_run1 (op : Int) (s : ByteArray) (opc f3 f7 kind w : Int) : callK (ctx isaΦ) 20 0 81 [rowV op s 1 opc f3 f7 kind, .int .u32 w] [] (fun v _ => boolOf v) = bif fl w 1 127 != opc then some false else some true := by kernel_rfl
theorem fits_ok1 (op : Int) (s : ByteArray) (opc f3 f7 kind w : Int) : PureOK Tryz.prog 81 [rowV op s 1 opc f3 f7 kind, .int .u32 w] (.bool (fitsB 1 opc f3 f7 w)) := by
  refine bool_of_run ?_
  rw [fits_run1]
  simp only [fitsB, bne]
  generalize (fl w 1 127 == opc) = b0
  cases b0 <;> rfl
theorem fits_run2 (op : Int) (s : ByteArray) (opc f3 f7 kind w : Int) : callK (ctx isaΦ) 20 0 81 [rowV op s 2 opc f3 f7 kind, .int .u32 w] [] (fun v _ => boolOf v) = bif fl w 1 127 != opc then some false else bif fl w 4096 7 == f3 then some true else some false := by kernel_rfl
theorem fits_ok2 (op : Int) (s : ByteArray) (opc f3 f7 kind w : Int) : PureOK Tryz.prog 81 [rowV op s 2 opc f3 f7 kind, .int .u32 w] (.bool (fitsB 2 opc f3 f7 w)) := by
  refine bool_of_run ?_
  rw [fits_run2]
  simp only [fitsB, bne]
  generalize (fl w 1 127 == opc) = b0
  generalize (fl w 4096 7 == f3) = b1
  cases b0 <;> cases b1 <;> rfl
theorem fits_run3 (op : Int) (s : ByteArray) (opc f3 f7 kind w : Int) : callK (ctx isaΦ) 20 0 81 [rowV op s 3 opc f3 f7 kind, .int .u32 w] [] (fun v _ => boolOf v) = bif fl w 1 127 != opc then some false else bif fl w 4096 7 == f3 then some true else some false := by kernel_rfl
theorem fits_ok3 (op : Int) (s : ByteArray) (opc f3 f7 kind w : Int) : PureOK Tryz.prog 81 [rowV op s 3 opc f3 f7 kind, .int .u32 w] (.bool (fitsB 3 opc f3 f7 w)) := by
  refine bool_of_run ?_
  rw [fits_run3]
  simp only [fitsB, bne]
  generalize (fl w 1 127 == opc) = b0
  generalize (fl w 4096 7 == f3) = b1
  cases b0 <;> cases b1 <;> rfl
theorem fits_run4 (op : Int) (s : ByteArray) (opc f3 f7 kind w : Int) : callK (ctx isaΦ) 20 0 81 [rowV op s 4 opc f3 f7 kind, .int .u32 w] [] (fun v _ => boolOf v) = bif fl w 1 127 != opc then some false else bif fl w 4096 7 == f3 then some true else some false := by kernel_rfl
theorem fits_ok4 (op : Int) (s : ByteArray) (opc f3 f7 kind w : Int) : PureOK Tryz.prog 81 [rowV op s 4 opc f3 f7 kind, .int .u32 w] (.bool (fitsB 4 opc f3 f7 w)) := by
  refine bool_of_run ?_
  rw [fits_run4]
  simp only [fitsB, bne]
  generalize (fl w 1 127 == opc) = b0
  generalize (fl w 4096 7 == f3) = b1
  cases b0 <;> cases b1 <;> rfl
theorem fits_run5 (op : Int) (s : ByteArray) (opc f3 f7 kind w : Int) : callK (ctx isaΦ) 20 0 81 [rowV op s 5 opc f3 f7 kind, .int .u32 w] [] (fun v _ => boolOf v) = bif fl w 1 127 != opc then some false else bif fl w 4096 7 == f3 then bif fl w 33554432 127 == f7 then some true else some false else some false := by kernel_rfl
theorem fits_ok5 (op : Int) (s : ByteArray) (opc f3 f7 kind w : Int) : PureOK Tryz.prog 81 [rowV op s 5 opc f3 f7 kind, .int .u32 w] (.bool (fitsB 5 opc f3 f7 w)) := by
  refine bool_of_run ?_
  rw [fits_run5]
  simp only [fitsB, bne]
  generalize (fl w 1 127 == opc) = b0
  generalize (fl w 4096 7 == f3) = b1
  generalize (fl w 33554432 127 == f7) = b2
  cases b0 <;> cases b1 <;> cases b2 <;> rfl
theorem fits_run6 (op : Int) (s : ByteArray) (opc f3 f7 kind w : Int) : callK (ctx isaΦ) 20 0 81 [rowV op s 6 opc f3 f7 kind, .int .u32 w] [] (fun v _ => boolOf v) = bif fl w 1 127 != opc then some false else bif fl w 4096 7 == f3 then bif fl w 33554432 127 == f7 then some true else some false else some false := by kernel_rfl
theorem fits_ok6 (op : Int) (s : ByteArray) (opc f3 f7 kind w : Int) : PureOK Tryz.prog 81 [rowV op s 6 opc f3 f7 kind, .int .u32 w] (.bool (fitsB 6 opc f3 f7 w)) := by
  refine bool_of_run ?_
  rw [fits_run6]
  simp only [fitsB, bne]
  generalize (fl w 1 127 == opc) = b0
  generalize (fl w 4096 7 == f3) = b1
  generalize (fl w 33554432 127 == f7) = b2
  cases b0 <;> cases b1 <;> cases b2 <;> rfl
theorem fits_run7 (op : Int) (s : ByteArray) (opc f3 f7 kind w : Int) : callK (ctx isaΦ) 20 0 81 [rowV op s 7 opc f3 f7 kind, .int .u32 w] [] (fun v _ => boolOf v) = bif fl w 1 127 != opc then some false else bif fl w 4096 7 == f3 then bif fl w 128 31 == 0 then bif fl w 32768 31 == 0 then bif fl w 268435456 15 == 0 then some true else some false else some false else some false else some false := by kernel_rfl
theorem fits_ok7 (op : Int) (s : ByteArray) (opc f3 f7 kind w : Int) : PureOK Tryz.prog 81 [rowV op s 7 opc f3 f7 kind, .int .u32 w] (.bool (fitsB 7 opc f3 f7 w)) := by
  refine bool_of_run ?_
  rw [fits_run7]
  simp only [fitsB, bne]
  generalize (fl w 1 127 == opc) = b0
  generalize (fl w 4096 7 == f3) = b1
  generalize (fl w 128 31 == 0) = b2
  generalize (fl w 32768 31 == 0) = b3
  generalize (fl w 268435456 15 == 0) = b4
  cases b0 <;> cases b1 <;> cases b2 <;> cases b3 <;> cases b4 <;> rfl
theorem fits_run8 (op : Int) (s : ByteArray) (opc f3 f7 kind w : Int) : callK (ctx isaΦ) 20 0 81 [rowV op s 8 opc f3 f7 kind, .int .u32 w] [] (fun v _ => boolOf v) = bif w == opc then some true else some false := by kernel_rfl
theorem fits_ok8 (op : Int) (s : ByteArray) (opc f3 f7 kind w : Int) : PureOK Tryz.prog 81 [rowV op s 8 opc f3 f7 kind, .int .u32 w] (.bool (fitsB 8 opc f3 f7 w)) := by
  refine bool_of_run ?_
  rw [fits_run8]
  simp only [fitsB, bne]
  generalize (w == opc) = b0
  cases b0 <;> rfl
theorem fits_run9 (op : Int) (s : ByteArray) (opc f3 f7 kind w : Int) : callK (ctx isaΦ) 20 0 81 [rowV op s 9 opc f3 f7 kind, .int .u32 w] [] (fun v _ => boolOf v) = bif fl w 1 127 != opc then some false else bif fl w 4096 7 == f3 then bif fl w 33554432 127 == f7 then bif fl w 128 31 == 0 then some true else some false else some false else some false := by kernel_rfl
theorem fits_ok9 (op : Int) (s : ByteArray) (opc f3 f7 kind w : Int) : PureOK Tryz.prog 81 [rowV op s 9 opc f3 f7 kind, .int .u32 w] (.bool (fitsB 9 opc f3 f7 w)) := by
  refine bool_of_run ?_
  rw [fits_run9]
  simp only [fitsB, bne]
  generalize (fl w 1 127 == opc) = b0
  generalize (fl w 4096 7 == f3) = b1
  generalize (fl w 33554432 127 == f7) = b2
  generalize (fl w 128 31 == 0) = b3
  cases b0 <;> cases b1 <;> cases b2 <;> cases b3 <;> rfl
theorem fits_run10 (op : Int) (s : ByteArray) (opc f3 f7 kind w : Int) : callK (ctx isaΦ) 20 0 81 [rowV op s 10 opc f3 f7 kind, .int .u32 w] [] (fun v _ => boolOf v) = bif fl w 1 127 != opc then some false else bif fl w 4096 7 == f3 then some true else some false := by kernel_rfl
theorem fits_ok10 (op : Int) (s : ByteArray) (opc f3 f7 kind w : Int) : PureOK Tryz.prog 81 [rowV op s 10 opc f3 f7 kind, .int .u32 w] (.bool (fitsB 10 opc f3 f7 w)) := by
  refine bool_of_run ?_
  rw [fits_run10]
  simp only [fitsB, bne]
  generalize (fl w 1 127 == opc) = b0
  generalize (fl w 4096 7 == f3) = b1
  cases b0 <;> cases b1 <;> rfl
theorem fits_run11 (op : Int) (s : ByteArray) (opc f3 f7 kind w : Int) : callK (ctx isaΦ) 20 0 81 [rowV op s 11 opc f3 f7 kind, .int .u32 w] [] (fun v _ => boolOf v) = bif fl w 1 127 != opc then some false else bif fl w 4096 7 == f3 then some true else some false := by kernel_rfl
theorem fits_ok11 (op : Int) (s : ByteArray) (opc f3 f7 kind w : Int) : PureOK Tryz.prog 81 [rowV op s 11 opc f3 f7 kind, .int .u32 w] (.bool (fitsB 11 opc f3 f7 w)) := by
  refine bool_of_run ?_
  rw [fits_run11]
  simp only [fitsB, bne]
  generalize (fl w 1 127 == opc) = b0
  generalize (fl w 4096 7 == f3) = b1
  cases b0 <;> cases b1 <;> rfl
theorem fits_run12 (op : Int) (s : ByteArray) (opc f3 f7 kind w : Int) : callK (ctx isaΦ) 20 0 81 [rowV op s 12 opc f3 f7 kind, .int .u32 w] [] (fun v _ => boolOf v) = bif fl w 1 127 != opc then some false else bif fl w 4096 7 == f3 then bif (fl w 33554432 127).fdiv 4 == f7 then bif fl w 1048576 31 == 0 then some true else some false else some false else some false := by kernel_rfl
theorem fits_ok12 (op : Int) (s : ByteArray) (opc f3 f7 kind w : Int) : PureOK Tryz.prog 81 [rowV op s 12 opc f3 f7 kind, .int .u32 w] (.bool (fitsB 12 opc f3 f7 w)) := by
  refine bool_of_run ?_
  rw [fits_run12]
  simp only [fitsB, bne]
  generalize (fl w 1 127 == opc) = b0
  generalize (fl w 4096 7 == f3) = b1
  generalize ((fl w 33554432 127).fdiv 4 == f7) = b2
  generalize (fl w 1048576 31 == 0) = b3
  cases b0 <;> cases b1 <;> cases b2 <;> cases b3 <;> rfl
theorem fits_run13 (op : Int) (s : ByteArray) (opc f3 f7 kind w : Int) : callK (ctx isaΦ) 20 0 81 [rowV op s 13 opc f3 f7 kind, .int .u32 w] [] (fun v _ => boolOf v) = bif fl w 1 127 != opc then some false else bif fl w 4096 7 == f3 then bif (fl w 33554432 127).fdiv 4 == f7 then some true else some false else some false := by kernel_rfl
theorem fits_ok13 (op : Int) (s : ByteArray) (opc f3 f7 kind w : Int) : PureOK Tryz.prog 81 [rowV op s 13 opc f3 f7 kind, .int .u32 w] (.bool (fitsB 13 opc f3 f7 w)) := by
  refine bool_of_run ?_
  rw [fits_run13]
  simp only [fitsB, bne]
  generalize (fl w 1 127 == opc) = b0
  generalize (fl w 4096 7 == f3) = b1
  generalize ((fl w 33554432 127).fdiv 4 == f7) = b2
  cases b0 <;> cases b1 <;> cases b2 <;> rfl
theorem dec_ok0 (op : Int) (s : ByteArray) (opc f3 f7 kind w : Int) : PureOK Tryz.prog 82 [rowV op s 0 opc f3 f7 kind, .int .u32 w] (instV (decI 0 op w)) :=
  PureOK.of_run isaΦ_ok (show callK (ctx isaΦ) 20 0 82 [rowV op s 0 opc f3 f7 kind, .int .u32 w] [] (fun v _ => some v) = some (instV (decI 0 op w)) by kernel_rfl) (Gh.plain rfl)
theorem dec_ok1 (op : Int) (s : ByteArray) (opc f3 f7 kind w : Int) : PureOK Tryz.prog 82 [rowV op s 1 opc f3 f7 kind, .int .u32 w] (instV (decI 1 op w)) :=
  PureOK.of_run isaΦ_ok (show callK (ctx isaΦ) 20 0 82 [rowV op s 1 opc f3 f7 kind, .int .u32 w] [] (fun v _ => some v) = some (instV (decI 1 op w)) by kernel_rfl) (Gh.plain rfl)
theorem dec_ok2 (op : Int) (s : ByteArray) (opc f3 f7 kind w : Int) : PureOK Tryz.prog 82 [rowV op s 2 opc f3 f7 kind, .int .u32 w] (instV (decI 2 op w)) :=
  PureOK.of_run isaΦ_ok (show callK (ctx isaΦ) 20 0 82 [rowV op s 2 opc f3 f7 kind, .int .u32 w] [] (fun v _ => some v) = some (instV (decI 2 op w)) by kernel_rfl) (Gh.plain rfl)
theorem dec_ok3 (op : Int) (s : ByteArray) (opc f3 f7 kind w : Int) : PureOK Tryz.prog 82 [rowV op s 3 opc f3 f7 kind, .int .u32 w] (instV (decI 3 op w)) :=
  PureOK.of_run isaΦ_ok (show callK (ctx isaΦ) 20 0 82 [rowV op s 3 opc f3 f7 kind, .int .u32 w] [] (fun v _ => some v) = some (instV (decI 3 op w)) by kernel_rfl) (Gh.plain rfl)
theorem dec_ok4 (op : Int) (s : ByteArray) (opc f3 f7 kind w : Int) : PureOK Tryz.prog 82 [rowV op s 4 opc f3 f7 kind, .int .u32 w] (instV (decI 4 op w)) :=
  PureOK.of_run isaΦ_ok (show callK (ctx isaΦ) 20 0 82 [rowV op s 4 opc f3 f7 kind, .int .u32 w] [] (fun v _ => some v) = some (instV (decI 4 op w)) by kernel_rfl) (Gh.plain rfl)
theorem dec_ok5 (op : Int) (s : ByteArray) (opc f3 f7 kind w : Int) : PureOK Tryz.prog 82 [rowV op s 5 opc f3 f7 kind, .int .u32 w] (instV (decI 5 op w)) :=
  PureOK.of_run isaΦ_ok (show callK (ctx isaΦ) 20 0 82 [rowV op s 5 opc f3 f7 kind, .int .u32 w] [] (fun v _ => some v) = some (instV (decI 5 op w)) by kernel_rfl) (Gh.plain rfl)
theorem dec_ok6 (op : Int) (s : ByteArray) (opc f3 f7 kind w : Int) : PureOK Tryz.prog 82 [rowV op s 6 opc f3 f7 kind, .int .u32 w] (instV (decI 6 op w)) :=
  PureOK.of_run isaΦ_ok (show callK (ctx isaΦ) 20 0 82 [rowV op s 6 opc f3 f7 kind, .int .u32 w] [] (fun v _ => some v) = some (instV (decI 6 op w)) by kernel_rfl) (Gh.plain rfl)
theorem dec_ok7 (op : Int) (s : ByteArray) (opc f3 f7 kind w : Int) : PureOK Tryz.prog 82 [rowV op s 7 opc f3 f7 kind, .int .u32 w] (instV (decI 7 op w)) :=
  PureOK.of_run isaΦ_ok (show callK (ctx isaΦ) 20 0 82 [rowV op s 7 opc f3 f7 kind, .int .u32 w] [] (fun v _ => some v) = some (instV (decI 7 op w)) by kernel_rfl) (Gh.plain rfl)
theorem dec_ok8 (op : Int) (s : ByteArray) (opc f3 f7 kind w : Int) : PureOK Tryz.prog 82 [rowV op s 8 opc f3 f7 kind, .int .u32 w] (instV (decI 8 op w)) :=
  PureOK.of_run isaΦ_ok (show callK (ctx isaΦ) 20 0 82 [rowV op s 8 opc f3 f7 kind, .int .u32 w] [] (fun v _ => some v) = some (instV (decI 8 op w)) by kernel_rfl) (Gh.plain rfl)
theorem dec_ok9 (op : Int) (s : ByteArray) (opc f3 f7 kind w : Int) : PureOK Tryz.prog 82 [rowV op s 9 opc f3 f7 kind, .int .u32 w] (instV (decI 9 op w)) :=
  PureOK.of_run isaΦ_ok (show callK (ctx isaΦ) 20 0 82 [rowV op s 9 opc f3 f7 kind, .int .u32 w] [] (fun v _ => some v) = some (instV (decI 9 op w)) by kernel_rfl) (Gh.plain rfl)
theorem dec_ok10 (op : Int) (s : ByteArray) (opc f3 f7 kind w : Int) : PureOK Tryz.prog 82 [rowV op s 10 opc f3 f7 kind, .int .u32 w] (instV (decI 10 op w)) :=
  PureOK.of_run isaΦ_ok (show callK (ctx isaΦ) 20 0 82 [rowV op s 10 opc f3 f7 kind, .int .u32 w] [] (fun v _ => some v) = some (instV (decI 10 op w)) by kernel_rfl) (Gh.plain rfl)
theorem dec_ok11 (op : Int) (s : ByteArray) (opc f3 f7 kind w : Int) : PureOK Tryz.prog 82 [rowV op s 11 opc f3 f7 kind, .int .u32 w] (instV (decI 11 op w)) :=
  PureOK.of_run isaΦ_ok (show callK (ctx isaΦ) 20 0 82 [rowV op s 11 opc f3 f7 kind, .int .u32 w] [] (fun v _ => some v) = some (instV (decI 11 op w)) by kernel_rfl) (Gh.plain rfl)
theorem dec_run12 (op : Int) (s : ByteArray) (opc f3 f7 kind w : Int) : callK (ctx isaΦ) 20 0 82 [rowV op s 12 opc f3 f7 kind, .int .u32 w] [] (fun v _ => some v) =
    bif fl w 67108864 1 == 1 then (bif fl w 33554432 1 == 1 then some (instV ⟨op, reg w 128, reg w 32768, 0, 0, 0, true, true⟩) else some (instV ⟨op, reg w 128, reg w 32768, 0, 0, 0, true, false⟩)) else (bif fl w 33554432 1 == 1 then some (instV ⟨op, reg w 128, reg w 32768, 0, 0, 0, false, true⟩) else some (instV ⟨op, reg w 128, reg w 32768, 0, 0, 0, false, false⟩)) := by kernel_rfl
theorem dec_ok12 (op : Int) (s : ByteArray) (opc f3 f7 kind w : Int) : PureOK Tryz.prog 82 [rowV op s 12 opc f3 f7 kind, .int .u32 w] (instV (decI 12 op w)) := by
  refine PureOK.of_run (m := 20) (lo := 0) isaΦ_ok ?_ (Gh.plain rfl)
  rw [dec_run12]
  simp only [decI]
  generalize (fl w 67108864 1 == 1) = a
  generalize (fl w 33554432 1 == 1) = b
  cases a <;> cases b <;> rfl
theorem dec_run13 (op : Int) (s : ByteArray) (opc f3 f7 kind w : Int) : callK (ctx isaΦ) 20 0 82 [rowV op s 13 opc f3 f7 kind, .int .u32 w] [] (fun v _ => some v) =
    bif fl w 67108864 1 == 1 then (bif fl w 33554432 1 == 1 then some (instV ⟨op, reg w 128, reg w 32768, reg w 1048576, 0, 0, true, true⟩) else some (instV ⟨op, reg w 128, reg w 32768, reg w 1048576, 0, 0, true, false⟩)) else (bif fl w 33554432 1 == 1 then some (instV ⟨op, reg w 128, reg w 32768, reg w 1048576, 0, 0, false, true⟩) else some (instV ⟨op, reg w 128, reg w 32768, reg w 1048576, 0, 0, false, false⟩)) := by kernel_rfl
theorem dec_ok13 (op : Int) (s : ByteArray) (opc f3 f7 kind w : Int) : PureOK Tryz.prog 82 [rowV op s 13 opc f3 f7 kind, .int .u32 w] (instV (decI 13 op w)) := by
  refine PureOK.of_run (m := 20) (lo := 0) isaΦ_ok ?_ (Gh.plain rfl)
  rw [dec_run13]
  simp only [decI]
  generalize (fl w 67108864 1 == 1) = a
  generalize (fl w 33554432 1 == 1) = b
  cases a <;> cases b <;> rfl
theorem forms {k : Int} (h : (decide (0 ≤ k) && decide (k ≤ 13)) = true) : k = 0 ∨ k = 1 ∨ k = 2 ∨ k = 3 ∨ k = 4 ∨ k = 5 ∨ k = 6 ∨ k = 7 ∨ k = 8 ∨ k = 9 ∨ k = 10 ∨ k = 11 ∨ k = 12 ∨ k = 13 := by
  simp only [Bool.and_eq_true, decide_eq_true_eq] at h
  omega
theorem fitsOK (op : Int) (s : ByteArray) (k opc f3 f7 kind w : Int) (h : (decide (0 ≤ k) && decide (k ≤ 13)) = true) : PureOK Tryz.prog 81 [rowV op s k opc f3 f7 kind, .int .u32 w] (.bool (fitsB k opc f3 f7 w)) := by
  rcases forms h with rfl | rfl | rfl | rfl | rfl | rfl | rfl | rfl | rfl | rfl | rfl | rfl | rfl | rfl
  · exact fits_ok0 _ _ _ _ _ _ _
  · exact fits_ok1 _ _ _ _ _ _ _
  · exact fits_ok2 _ _ _ _ _ _ _
  · exact fits_ok3 _ _ _ _ _ _ _
  · exact fits_ok4 _ _ _ _ _ _ _
  · exact fits_ok5 _ _ _ _ _ _ _
  · exact fits_ok6 _ _ _ _ _ _ _
  · exact fits_ok7 _ _ _ _ _ _ _
  · exact fits_ok8 _ _ _ _ _ _ _
  · exact fits_ok9 _ _ _ _ _ _ _
  · exact fits_ok10 _ _ _ _ _ _ _
  · exact fits_ok11 _ _ _ _ _ _ _
  · exact fits_ok12 _ _ _ _ _ _ _
  · exact fits_ok13 _ _ _ _ _ _ _
theorem decOK (op : Int) (s : ByteArray) (k opc f3 f7 kind w : Int) (h : (decide (0 ≤ k) && decide (k ≤ 13)) = true) : PureOK Tryz.prog 82 [rowV op s k opc f3 f7 kind, .int .u32 w] (instV (decI k op w)) := by
  rcases forms h with rfl | rfl | rfl | rfl | rfl | rfl | rfl | rfl | rfl | rfl | rfl | rfl | rfl | rfl
  · exact dec_ok0 _ _ _ _ _ _ _
  · exact dec_ok1 _ _ _ _ _ _ _
  · exact dec_ok2 _ _ _ _ _ _ _
  · exact dec_ok3 _ _ _ _ _ _ _
  · exact dec_ok4 _ _ _ _ _ _ _
  · exact dec_ok5 _ _ _ _ _ _ _
  · exact dec_ok6 _ _ _ _ _ _ _
  · exact dec_ok7 _ _ _ _ _ _ _
  · exact dec_ok8 _ _ _ _ _ _ _
  · exact dec_ok9 _ _ _ _ _ _ _
  · exact dec_ok10 _ _ _ _ _ _ _
  · exact dec_ok11 _ _ _ _ _ _ _
  · exact dec_ok12 _ _ _ _ _ _ _
  · exact dec_ok13 _ _ _ _ _ _ _
structure Row where
  op : Int
  form : Int
  opc : Int
  f3 : Int
  f7 : Int
  kind : Int
def table : List Row := [⟨1, 0, 55, 0, 0, 1⟩, ⟨2, 0, 23, 0, 0, 1⟩, ⟨3, 1, 111, 0, 0, 2⟩, ⟨4, 2, 103, 0, 0, 2⟩, ⟨5, 3, 99, 0, 0, 3⟩, ⟨6, 3, 99, 1, 0, 3⟩, ⟨7, 3, 99, 4, 0, 3⟩, ⟨8, 3, 99, 5, 0, 3⟩, ⟨9, 3, 99, 6, 0, 3⟩, ⟨10, 3, 99, 7, 0, 3⟩, ⟨11, 2, 3, 0, 0, 4⟩, ⟨12, 2, 3, 1, 0, 4⟩, ⟨13, 2, 3, 2, 0, 4⟩, ⟨14, 2, 3, 4, 0, 4⟩, ⟨15, 2, 3, 5, 0, 4⟩, ⟨16, 4, 35, 0, 0, 5⟩, ⟨17, 4, 35, 1, 0, 5⟩, ⟨18, 4, 35, 2, 0, 5⟩, ⟨19, 2, 19, 0, 0, 1⟩, ⟨20, 2, 19, 2, 0, 1⟩, ⟨21, 2, 19, 3, 0, 1⟩, ⟨22, 2, 19, 4, 0, 1⟩, ⟨23, 2, 19, 6, 0, 1⟩, ⟨24, 2, 19, 7, 0, 1⟩, ⟨25, 5, 19, 1, 0, 1⟩, ⟨26, 5, 19, 5, 0, 1⟩, ⟨27, 5, 19, 5, 32, 1⟩, ⟨28, 6, 51, 0, 0, 1⟩, ⟨29, 6, 51, 0, 32, 1⟩, ⟨30, 6, 51, 1, 0, 1⟩, ⟨31, 6, 51, 2, 0, 1⟩, ⟨32, 6, 51, 3, 0, 1⟩, ⟨33, 6, 51, 4, 0, 1⟩, ⟨34, 6, 51, 5, 0, 1⟩, ⟨35, 6, 51, 5, 32, 1⟩, ⟨36, 6, 51, 6, 0, 1⟩, ⟨37, 6, 51, 7, 0, 1⟩, ⟨38, 7, 15, 0, 0, 7⟩, ⟨39, 8, 4111, 0, 0, 7⟩, ⟨40, 8, 115, 0, 0, 7⟩, ⟨41, 8, 1048691, 0, 0, 7⟩, ⟨42, 8, 807403635, 0, 0, 7⟩, ⟨43, 8, 273678451, 0, 0, 7⟩, ⟨44, 9, 115, 0, 9, 7⟩, ⟨45, 10, 115, 1, 0, 7⟩, ⟨46, 10, 115, 2, 0, 7⟩, ⟨47, 10, 115, 3, 0, 7⟩, ⟨48, 11, 115, 5, 0, 7⟩, ⟨49, 11, 115, 6, 0, 7⟩, ⟨50, 11, 115, 7, 0, 7⟩, ⟨51, 6, 51, 0, 1, 1⟩, ⟨52, 6, 51, 1, 1, 1⟩, ⟨53, 6, 51, 2, 1, 1⟩, ⟨54, 6, 51, 3, 1, 1⟩, ⟨55, 6, 51, 4, 1, 1⟩, ⟨56, 6, 51, 5, 1, 1⟩, ⟨57, 6, 51, 6, 1, 1⟩, ⟨58, 6, 51, 7, 1, 1⟩, ⟨59, 12, 47, 2, 2, 4⟩, ⟨60, 13, 47, 2, 3, 6⟩, ⟨61, 13, 47, 2, 1, 6⟩, ⟨62, 13, 47, 2, 0, 6⟩, ⟨63, 13, 47, 2, 4, 6⟩, ⟨64, 13, 47, 2, 12, 6⟩, ⟨65, 13, 47, 2, 8, 6⟩, ⟨66, 13, 47, 2, 16, 6⟩, ⟨67, 13, 47, 2, 20, 6⟩, ⟨68, 13, 47, 2, 24, 6⟩, ⟨69, 13, 47, 2, 28, 6⟩]
noncomputable def decL : List Row → Int → Inst × Bool
  | [], _ => (⟨0, 0, 0, 0, 0, 0, false, false⟩, false)
  | r :: l, w => bif fitsB r.form r.opc r.f3 r.f7 w then (decI r.form r.op w, true) else decL l w
end Go.Proofs.YtgkicojmgokinaaGreatDoor.Ab.Isa
namespace Go.Proofs.YtgkicojmgokinaaGreatDoor.Ab.Isa
open Go Go.RowKit
set_option linter.unusedVariables false
set_option linter.unusedSimpArgs false
set_option maxRecDepth 100000
theorem fn46 : sigOf 46 = some (20, [.cell 2 24, .tmp 3]) := by kernel_rfl
noncomputable def dcB : Code := loopIn (flat (bodyOf 46))[2]?
noncomputable def decΨ (B : Int → Int → Int → Int → Int → Bool) (D : Int → Int → Int → Inst) : Oracle := fun lo f args H => match f with
  | 69 => match args with
    | [] => some [(true, gs 7 litCells 69, H)]
    | _ => none
  | 81 => match args with
    | [.agg ⟨[.int .i64 op, .string s, .int .i64 k, .int .u32 opc, .int .u32 f3, .int .u32 f7, .int .i64 kind]⟩, .int .u32 w] => some [(decide (0 ≤ k) && decide (k ≤ 13), .bool (B k opc f3 f7 w), H)]
    | _ => none
  | 82 => match args with
    | [.agg ⟨[.int .i64 op, .string s, .int .i64 k, .int .u32 opc, .int .u32 f3, .int .u32 f7, .int .i64 kind]⟩, .int .u32 w] => some [(decide (0 ≤ k) && decide (k ≤ 13), instV (D k op w), H)]
    | _ => none
  | _ => none
noncomputable def dcF (w : Int) (k : Nat) (b : Bool) : Fr := [(0, .int .u32 w), (2, .pointer (some ⟨0, 0, none⟩)), (3, .bool b), (6, gs 7 litCells 69), (7, .int .i64 69), (8, .int .i64 (Int.ofNat k))]
def dcK : List Nat := [0, 2, 3, 6, 7, 8]
def dcH (i : Inst) : Heap := [some ⟨instC i, 24, none⟩]
def rowAt (k : Nat) : Row := table.getD k ⟨0, 0, 0, 0, 0, 0⟩
noncomputable def dcL (B : Int → Int → Int → Int → Int → Bool) (D : Int → Int → Int → Inst) (w : Int) (k : Nat) : Option (Exit × List (Option Value) × Heap) :=
  runL ((ctx (decΨ B D)).at_ 46) (callK (ctx (decΨ B D)) 20) 20 0 20 46 (keeps 46) (flat dcB) (dcF w k false) (dcH noInst) (see dcK 1)
noncomputable def dcR (B : Int → Int → Int → Int → Int → Bool) (D : Int → Int → Int → Inst) (w : Int) (k : Nat) : Option (Exit × List (Option Value) × Heap) :=
  bif B (rowAt k).form (rowAt k).opc (rowAt k).f3 (rowAt k).f7 w then some (.ret, (dcF w k true).map (fun e => some e.2), dcH (D (rowAt k).form (rowAt k).op w)) else some (.normal, (dcF w (k + 1) false).map (fun e => some e.2), dcH noInst)
theorem dc_head (B : Int → Int → Int → Int → Int → Bool) (D : Int → Int → Int → Inst) (w : Int) : runL ((ctx (decΨ B D)).at_ 46) (callK (ctx (decΨ B D)) 20) 20 0 20 46 (keeps 46) ((flat (bodyOf 46)).take 2) (enterF 0 [.int .u32 w]) [] (see dcK 1) = some (.normal, (dcF w 0 false).map (fun e => some e.2), dcH noInst) := by kernel_rfl
theorem dc_end (B : Int → Int → Int → Int → Int → Bool) (D : Int → Int → Int → Inst) (w : Int) : runL ((ctx (decΨ B D)).at_ 46) (callK (ctx (decΨ B D)) 20) 20 0 20 46 (keeps 46) (flat dcB) (dcF w 69 false) (dcH noInst) (see dcK 1) = some (.exit 0, (dcF w 69 false).map (fun e => some e.2), dcH noInst) := by kernel_rfl
theorem dc_tail (B : Int → Int → Int → Int → Int → Bool) (D : Int → Int → Int → Inst) (w : Int) : runL ((ctx (decΨ B D)).at_ 46) (callK (ctx (decΨ B D)) 20) 20 0 20 46 (keeps 46) ((flat (bodyOf 46)).drop 3) (dcF w 69 false) (dcH noInst) (see dcK 1) = some (.ret, (dcF w 69 false).map (fun e => some e.2), dcH noInst) := by kernel_rfl
theorem dc_flat : flat (bodyOf 46) = (flat (bodyOf 46)).take 2 ++ ([.block 0 (.loop dcB)] ++ (flat (bodyOf 46)).drop 3) := by kernel_rfl
theorem rnd0 (B : Int → Int → Int → Int → Int → Bool) (D : Int → Int → Int → Inst) (w : Int) : dcL B D w 0 = dcR B D w 0 := by kernel_rfl
theorem rnd1 (B : Int → Int → Int → Int → Int → Bool) (D : Int → Int → Int → Inst) (w : Int) : dcL B D w 1 = dcR B D w 1 := by kernel_rfl
theorem rnd2 (B : Int → Int → Int → Int → Int → Bool) (D : Int → Int → Int → Inst) (w : Int) : dcL B D w 2 = dcR B D w 2 := by kernel_rfl
theorem rnd3 (B : Int → Int → Int → Int → Int → Bool) (D : Int → Int → Int → Inst) (w : Int) : dcL B D w 3 = dcR B D w 3 := by kernel_rfl
theorem rnd4 (B : Int → Int → Int → Int → Int → Bool) (D : Int → Int → Int → Inst) (w : Int) : dcL B D w 4 = dcR B D w 4 := by kernel_rfl
theorem rnd5 (B : Int → Int → Int → Int → Int → Bool) (D : Int → Int → Int → Inst) (w : Int) : dcL B D w 5 = dcR B D w 5 := by kernel_rfl
theorem rnd6 (B : Int → Int → Int → Int → Int → Bool) (D : Int → Int → Int → Inst) (w : Int) : dcL B D w 6 = dcR B D w 6 := by kernel_rfl
theorem rnd7 (B : Int → Int → Int → Int → Int → Bool) (D : Int → Int → Int → Inst) (w : Int) : dcL B D w 7 = dcR B D w 7 := by kernel_rfl
theorem rnd8 (B : Int → Int → Int → Int → Int → Bool) (D : Int → Int → Int → Inst) (w : Int) : dcL B D w 8 = dcR B D w 8 := by kernel_rfl
theorem rnd9 (B : Int → Int → Int → Int → Int → Bool) (D : Int → Int → Int → Inst) (w : Int) : dcL B D w 9 = dcR B D w 9 := by kernel_rfl
theorem rnd10 (B : Int → Int → Int → Int → Int → Bool) (D : Int → Int → Int → Inst) (w : Int) : dcL B D w 10 = dcR B D w 10 := by kernel_rfl
theorem rnd11 (B : Int → Int → Int → Int → Int → Bool) (D : Int → Int → Int → Inst) (w : Int) : dcL B D w 11 = dcR B D w 11 := by kernel_rfl
theorem rnd12 (B : Int → Int → Int → Int → Int → Bool) (D : Int → Int → Int → Inst) (w : Int) : dcL B D w 12 = dcR B D w 12 := by kernel_rfl
theorem rnd13 (B : Int → Int → Int → Int → Int → Bool) (D : Int → Int → Int → Inst) (w : Int) : dcL B D w 13 = dcR B D w 13 := by kernel_rfl
theorem rnd14 (B : Int → Int → Int → Int → Int → Bool) (D : Int → Int → Int → Inst) (w : Int) : dcL B D w 14 = dcR B D w 14 := by kernel_rfl
theorem rnd15 (B : Int → Int → Int → Int → Int → Bool) (D : Int → Int → Int → Inst) (w : Int) : dcL B D w 15 = dcR B D w 15 := by kernel_rfl
theorem rnd16 (B : Int → Int → Int → Int → Int → Bool) (D : Int → Int → Int → Inst) (w : Int) : dcL B D w 16 = dcR B D w 16 := by kernel_rfl
theorem rnd17 (B : Int → Int → Int → Int → Int → Bool) (D : Int → Int → Int → Inst) (w : Int) : dcL B D w 17 = dcR B D w 17 := by kernel_rfl
theorem rnd18 (B : Int → Int → Int → Int → Int → Bool) (D : Int → Int → Int → Inst) (w : Int) : dcL B D w 18 = dcR B D w 18 := by kernel_rfl
theorem rnd19 (B : Int → Int → Int → Int → Int → Bool) (D : Int → Int → Int → Inst) (w : Int) : dcL B D w 19 = dcR B D w 19 := by kernel_rfl
theorem rnd20 (B : Int → Int → Int → Int → Int → Bool) (D : Int → Int → Int → Inst) (w : Int) : dcL B D w 20 = dcR B D w 20 := by kernel_rfl
theorem rnd21 (B : Int → Int → Int → Int → Int → Bool) (D : Int → Int → Int → Inst) (w : Int) : dcL B D w 21 = dcR B D w 21 := by kernel_rfl
theorem rnd22 (B : Int → Int → Int → Int → Int → Bool) (D : Int → Int → Int → Inst) (w : Int) : dcL B D w 22 = dcR B D w 22 := by kernel_rfl
theorem rnd23 (B : Int → Int → Int → Int → Int → Bool) (D : Int → Int → Int → Inst) (w : Int) : dcL B D w 23 = dcR B D w 23 := by kernel_rfl
theorem rnd24 (B : Int → Int → Int → Int → Int → Bool) (D : Int → Int → Int → Inst) (w : Int) : dcL B D w 24 = dcR B D w 24 := by kernel_rfl
theorem rnd25 (B : Int → Int → Int → Int → Int → Bool) (D : Int → Int → Int → Inst) (w : Int) : dcL B D w 25 = dcR B D w 25 := by kernel_rfl
theorem rnd26 (B : Int → Int → Int → Int → Int → Bool) (D : Int → Int → Int → Inst) (w : Int) : dcL B D w 26 = dcR B D w 26 := by kernel_rfl
theorem rnd27 (B : Int → Int → Int → Int → Int → Bool) (D : Int → Int → Int → Inst) (w : Int) : dcL B D w 27 = dcR B D w 27 := by kernel_rfl
theorem rnd28 (B : Int → Int → Int → Int → Int → Bool) (D : Int → Int → Int → Inst) (w : Int) : dcL B D w 28 = dcR B D w 28 := by kernel_rfl
theorem rnd29 (B : Int → Int → Int → Int → Int → Bool) (D : Int → Int → Int → Inst) (w : Int) : dcL B D w 29 = dcR B D w 29 := by kernel_rfl
theorem rnd30 (B : Int → Int → Int → Int → Int → Bool) (D : Int → Int → Int → Inst) (w : Int) : dcL B D w 30 = dcR B D w 30 := by kernel_rfl
theorem rnd31 (B : Int → Int → Int → Int → Int → Bool) (D : Int → Int → Int → Inst) (w : Int) : dcL B D w 31 = dcR B D w 31 := by kernel_rfl
theorem rnd32 (B : Int → Int → Int → Int → Int → Bool) (D : Int → Int → Int → Inst) (w : Int) : dcL B D w 32 = dcR B D w 32 := by kernel_rfl
theorem rnd33 (B : Int → Int → Int → Int → Int → Bool) (D : Int → Int → Int → Inst) (w : Int) : dcL B D w 33 = dcR B D w 33 := by kernel_rfl
theorem rnd34 (B : Int → Int → Int → Int → Int → Bool) (D : Int → Int → Int → Inst) (w : Int) : dcL B D w 34 = dcR B D w 34 := by kernel_rfl
theorem rnd35 (B : Int → Int → Int → Int → Int → Bool) (D : Int → Int → Int → Inst) (w : Int) : dcL B D w 35 = dcR B D w 35 := by kernel_rfl
theorem rnd36 (B : Int → Int → Int → Int → Int → Bool) (D : Int → Int → Int → Inst) (w : Int) : dcL B D w 36 = dcR B D w 36 := by kernel_rfl
theorem rnd37 (B : Int → Int → Int → Int → Int → Bool) (D : Int → Int → Int → Inst) (w : Int) : dcL B D w 37 = dcR B D w 37 := by kernel_rfl
theorem rnd38 (B : Int → Int → Int → Int → Int → Bool) (D : Int → Int → Int → Inst) (w : Int) : dcL B D w 38 = dcR B D w 38 := by kernel_rfl
theorem rnd39 (B : Int → Int → Int → Int → Int → Bool) (D : Int → Int → Int → Inst) (w : Int) : dcL B D w 39 = dcR B D w 39 := by kernel_rfl
theorem rnd40 (B : Int → Int → Int → Int → Int → Bool) (D : Int → Int → Int → Inst) (w : Int) : dcL B D w 40 = dcR B D w 40 := by kernel_rfl
theorem rnd41 (B : Int → Int → Int → Int → Int → Bool) (D : Int → Int → Int → Inst) (w : Int) : dcL B D w 41 = dcR B D w 41 := by kernel_rfl
theorem rnd42 (B : Int → Int → Int → Int → Int → Bool) (D : Int → Int → Int → Inst) (w : Int) : dcL B D w 42 = dcR B D w 42 := by kernel_rfl
theorem rnd43 (B : Int → Int → Int → Int → Int → Bool) (D : Int → Int → Int → Inst) (w : Int) : dcL B D w 43 = dcR B D w 43 := by kernel_rfl
theorem rnd44 (B : Int → Int → Int → Int → Int → Bool) (D : Int → Int → Int → Inst) (w : Int) : dcL B D w 44 = dcR B D w 44 := by kernel_rfl
theorem rnd45 (B : Int → Int → Int → Int → Int → Bool) (D : Int → Int → Int → Inst) (w : Int) : dcL B D w 45 = dcR B D w 45 := by kernel_rfl
theorem rnd46 (B : Int → Int → Int → Int → Int → Bool) (D : Int → Int → Int → Inst) (w : Int) : dcL B D w 46 = dcR B D w 46 := by kernel_rfl
theorem rnd47 (B : Int → Int → Int → Int → Int → Bool) (D : Int → Int → Int → Inst) (w : Int) : dcL B D w 47 = dcR B D w 47 := by kernel_rfl
theorem rnd48 (B : Int → Int → Int → Int → Int → Bool) (D : Int → Int → Int → Inst) (w : Int) : dcL B D w 48 = dcR B D w 48 := by kernel_rfl
theorem rnd49 (B : Int → Int → Int → Int → Int → Bool) (D : Int → Int → Int → Inst) (w : Int) : dcL B D w 49 = dcR B D w 49 := by kernel_rfl
theorem rnd50 (B : Int → Int → Int → Int → Int → Bool) (D : Int → Int → Int → Inst) (w : Int) : dcL B D w 50 = dcR B D w 50 := by kernel_rfl
theorem rnd51 (B : Int → Int → Int → Int → Int → Bool) (D : Int → Int → Int → Inst) (w : Int) : dcL B D w 51 = dcR B D w 51 := by kernel_rfl
theorem rnd52 (B : Int → Int → Int → Int → Int → Bool) (D : Int → Int → Int → Inst) (w : Int) : dcL B D w 52 = dcR B D w 52 := by kernel_rfl
theorem rnd53 (B : Int → Int → Int → Int → Int → Bool) (D : Int → Int → Int → Inst) (w : Int) : dcL B D w 53 = dcR B D w 53 := by kernel_rfl
theorem rnd54 (B : Int → Int → Int → Int → Int → Bool) (D : Int → Int → Int → Inst) (w : Int) : dcL B D w 54 = dcR B D w 54 := by kernel_rfl
theorem rnd55 (B : Int → Int → Int → Int → Int → Bool) (D : Int → Int → Int → Inst) (w : Int) : dcL B D w 55 = dcR B D w 55 := by kernel_rfl
theorem rnd56 (B : Int → Int → Int → Int → Int → Bool) (D : Int → Int → Int → Inst) (w : Int) : dcL B D w 56 = dcR B D w 56 := by kernel_rfl
theorem rnd57 (B : Int → Int → Int → Int → Int → Bool) (D : Int → Int → Int → Inst) (w : Int) : dcL B D w 57 = dcR B D w 57 := by kernel_rfl
theorem rnd58 (B : Int → Int → Int → Int → Int → Bool) (D : Int → Int → Int → Inst) (w : Int) : dcL B D w 58 = dcR B D w 58 := by kernel_rfl
theorem rnd59 (B : Int → Int → Int → Int → Int → Bool) (D : Int → Int → Int → Inst) (w : Int) : dcL B D w 59 = dcR B D w 59 := by kernel_rfl
theorem rnd60 (B : Int → Int → Int → Int → Int → Bool) (D : Int → Int → Int → Inst) (w : Int) : dcL B D w 60 = dcR B D w 60 := by kernel_rfl
theorem rnd61 (B : Int → Int → Int → Int → Int → Bool) (D : Int → Int → Int → Inst) (w : Int) : dcL B D w 61 = dcR B D w 61 := by kernel_rfl
theorem rnd62 (B : Int → Int → Int → Int → Int → Bool) (D : Int → Int → Int → Inst) (w : Int) : dcL B D w 62 = dcR B D w 62 := by kernel_rfl
theorem rnd63 (B : Int → Int → Int → Int → Int → Bool) (D : Int → Int → Int → Inst) (w : Int) : dcL B D w 63 = dcR B D w 63 := by kernel_rfl
theorem rnd64 (B : Int → Int → Int → Int → Int → Bool) (D : Int → Int → Int → Inst) (w : Int) : dcL B D w 64 = dcR B D w 64 := by kernel_rfl
theorem rnd65 (B : Int → Int → Int → Int → Int → Bool) (D : Int → Int → Int → Inst) (w : Int) : dcL B D w 65 = dcR B D w 65 := by kernel_rfl
theorem rnd66 (B : Int → Int → Int → Int → Int → Bool) (D : Int → Int → Int → Inst) (w : Int) : dcL B D w 66 = dcR B D w 66 := by kernel_rfl
theorem rnd67 (B : Int → Int → Int → Int → Int → Bool) (D : Int → Int → Int → Inst) (w : Int) : dcL B D w 67 = dcR B D w 67 := by kernel_rfl
theorem rnd68 (B : Int → Int → Int → Int → Int → Bool) (D : Int → Int → Int → Inst) (w : Int) : dcL B D w 68 = dcR B D w 68 := by kernel_rfl
theorem rnd (B : Int → Int → Int → Int → Int → Bool) (D : Int → Int → Int → Inst) (w : Int) : ∀ k, k < 69 → dcL B D w k = dcR B D w k
  | 0, _ => rnd0 B D w
  | 1, _ => rnd1 B D w
  | 2, _ => rnd2 B D w
  | 3, _ => rnd3 B D w
  | 4, _ => rnd4 B D w
  | 5, _ => rnd5 B D w
  | 6, _ => rnd6 B D w
  | 7, _ => rnd7 B D w
  | 8, _ => rnd8 B D w
  | 9, _ => rnd9 B D w
  | 10, _ => rnd10 B D w
  | 11, _ => rnd11 B D w
  | 12, _ => rnd12 B D w
  | 13, _ => rnd13 B D w
  | 14, _ => rnd14 B D w
  | 15, _ => rnd15 B D w
  | 16, _ => rnd16 B D w
  | 17, _ => rnd17 B D w
  | 18, _ => rnd18 B D w
  | 19, _ => rnd19 B D w
  | 20, _ => rnd20 B D w
  | 21, _ => rnd21 B D w
  | 22, _ => rnd22 B D w
  | 23, _ => rnd23 B D w
  | 24, _ => rnd24 B D w
  | 25, _ => rnd25 B D w
  | 26, _ => rnd26 B D w
  | 27, _ => rnd27 B D w
  | 28, _ => rnd28 B D w
  | 29, _ => rnd29 B D w
  | 30, _ => rnd30 B D w
  | 31, _ => rnd31 B D w
  | 32, _ => rnd32 B D w
  | 33, _ => rnd33 B D w
  | 34, _ => rnd34 B D w
  | 35, _ => rnd35 B D w
  | 36, _ => rnd36 B D w
  | 37, _ => rnd37 B D w
  | 38, _ => rnd38 B D w
  | 39, _ => rnd39 B D w
  | 40, _ => rnd40 B D w
  | 41, _ => rnd41 B D w
  | 42, _ => rnd42 B D w
  | 43, _ => rnd43 B D w
  | 44, _ => rnd44 B D w
  | 45, _ => rnd45 B D w
  | 46, _ => rnd46 B D w
  | 47, _ => rnd47 B D w
  | 48, _ => rnd48 B D w
  | 49, _ => rnd49 B D w
  | 50, _ => rnd50 B D w
  | 51, _ => rnd51 B D w
  | 52, _ => rnd52 B D w
  | 53, _ => rnd53 B D w
  | 54, _ => rnd54 B D w
  | 55, _ => rnd55 B D w
  | 56, _ => rnd56 B D w
  | 57, _ => rnd57 B D w
  | 58, _ => rnd58 B D w
  | 59, _ => rnd59 B D w
  | 60, _ => rnd60 B D w
  | 61, _ => rnd61 B D w
  | 62, _ => rnd62 B D w
  | 63, _ => rnd63 B D w
  | 64, _ => rnd64 B D w
  | 65, _ => rnd65 B D w
  | 66, _ => rnd66 B D w
  | 67, _ => rnd67 B D w
  | 68, _ => rnd68 B D w
  | n + 69, h => absurd h (by omega)
theorem decΨ_ok : CtxOK Tryz.prog (ctx (decΨ fitsB decI)) := ctxOK fun lo f args H l v H' h hm => by
  unfold decΨ at h
  split at h
  · split at h
    · cases h
      simp only [List.mem_cons, List.not_mem_nil, or_false, Prod.mk.injEq] at hm
      obtain ⟨hc, rfl, rfl⟩ := hm
      exact ⟨rowsOK.call (fun a h => by cases h) lo H', rfl⟩
    · cases h
  · split at h
    · cases h
      simp only [List.mem_cons, List.not_mem_nil, or_false, Prod.mk.injEq] at hm
      obtain ⟨hc, rfl, rfl⟩ := hm
      exact ⟨(fitsOK _ _ _ _ _ _ _ _ hc.symm).call (gh_plains rfl) lo H', rfl⟩
    · cases h
  · split at h
    · cases h
      simp only [List.mem_cons, List.not_mem_nil, or_false, Prod.mk.injEq] at hm
      obtain ⟨hc, rfl, rfl⟩ := hm
      exact ⟨(decOK _ _ _ _ _ _ _ _ hc.symm).call (gh_plains rfl) lo H', rfl⟩
    · cases h
  · cases h
noncomputable def dec (w : Int) : Inst × Bool := decL table w
noncomputable def decV (w : Int) : Value := .tuple ⟨[instV (dec w).1, .bool (dec w).2]⟩
theorem dcF_tr (w : Int) (k : Nat) (b : Bool) : ∀ x ∈ dcF w k b, Tr 1 x.2 := by
  intro x hx
  simp only [dcF, List.mem_cons, List.not_mem_nil, or_false] at hx
  rcases hx with rfl | rfl | rfl | rfl | rfl | rfl
  · exact Tr.plain rfl
  · exact Tr.ptr (by omega)
  · exact Tr.plain rfl
  · exact Tr.gh (Gh.gs lit_gh)
  · exact Tr.plain rfl
  · exact Tr.plain rfl
theorem dcH_tr (i : Inst) : ∀ b, some b ∈ dcH i → b.view = none ∧ ∀ x ∈ b.cells, Tr 1 x := by
  intro b hb
  simp only [dcH, List.mem_cons, List.not_mem_nil, or_false, Option.some.injEq] at hb
  subst hb
  exact ⟨rfl, fun x hx => Tr.plain (List.all_eq_true.1 (show (instC i).all plain = true from rfl) x hx)⟩
def fitAt (w : Int) (k : Nat) : Bool := fitsB (rowAt k).form (rowAt k).opc (rowAt k).f3 (rowAt k).f7 w
theorem decL_find (w : Int) : ∀ (l : List Row) (m : Nat), m ≤ l.length → (∀ k, k < m → fitsB (l.getD k ⟨0, 0, 0, 0, 0, 0⟩).form (l.getD k ⟨0, 0, 0, 0, 0, 0⟩).opc (l.getD k ⟨0, 0, 0, 0, 0, 0⟩).f3 (l.getD k ⟨0, 0, 0, 0, 0, 0⟩).f7 w = false) →
    (m < l.length → fitsB (l.getD m ⟨0, 0, 0, 0, 0, 0⟩).form (l.getD m ⟨0, 0, 0, 0, 0, 0⟩).opc (l.getD m ⟨0, 0, 0, 0, 0, 0⟩).f3 (l.getD m ⟨0, 0, 0, 0, 0, 0⟩).f7 w = true) →
    decL l w = if m < l.length then (decI (l.getD m ⟨0, 0, 0, 0, 0, 0⟩).form (l.getD m ⟨0, 0, 0, 0, 0, 0⟩).op w, true) else (noInst, false)
  | [], m, hm, h1, h2 => by simp [decL, noInst]
  | r :: l, 0, hm, h1, h2 => by
    have := h2 (by simp)
    simp only [List.getD_cons_zero] at this
    simp [decL, this]
  | r :: l, m + 1, hm, h1, h2 => by
    have h0 := h1 0 (by omega)
    simp only [List.getD_cons_zero] at h0
    have ih := decL_find w l m (by simpa using hm) (fun k hk => by have := h1 (k + 1) (by omega); simpa only [List.getD_cons_succ] using this) (fun hk => by have := h2 (by simpa using hk); simpa only [List.getD_cons_succ] using this)
    simp only [decL, h0, cond_false, ih, List.length_cons, Nat.add_lt_add_iff_right, List.getD_cons_succ]
theorem first (p : Nat → Bool) : ∀ n, ∃ m, m ≤ n ∧ (∀ k, k < m → p k = false) ∧ (m < n → p m = true)
  | 0 => ⟨0, Nat.le_refl _, fun k h => by omega, fun h => by omega⟩
  | n + 1 => by
    obtain ⟨m, h1, h2, h3⟩ := first p n
    by_cases hm : m < n
    · exact ⟨m, by omega, h2, fun _ => h3 hm⟩
    · cases hp : p n with
      | true => exact ⟨n, by omega, fun k hk => h2 k (by omega), fun _ => hp⟩
      | false => exact ⟨n + 1, Nat.le_refl _, fun k hk => by
          rcases Nat.lt_or_ge k m with h | h
          · exact h2 k h
          · rw [show k = n by omega]; exact hp, fun h => by omega⟩
theorem decode_call (w : Int) : ∃ H', CallOK Tryz.prog 0 46 [.int .u32 w] [] (decV w) H' := by
  obtain ⟨m, h1, h2, h3⟩ := first (fitAt w) 69
  have hdec := decL_find w table m h1 h2 h3
  have hd : (flat (bodyOf 46)).all (drawsOK ((ctx (decΨ fitsB decI)).dr 46)) = true := by kernel_rfl
  have hdB : (flat dcB).all (drawsOK ((ctx (decΨ fitsB decI)).dr 46)) = true := by kernel_rfl
  have hd1 : ((flat (bodyOf 46)).take 2).all (drawsOK ((ctx (decΨ fitsB decI)).dr 46)) = true := by kernel_rfl
  have hd2 : ((flat (bodyOf 46)).drop 3).all (drawsOK ((ctx (decΨ fitsB decI)).dr 46)) = true := by kernel_rfl
  have hhead := RowOK.of_see decΨ_ok (ts := dcK) rfl hd1 (dc_head fitsB decI w) (by simp) rfl (dcF_tr w 0 false) (dcH_tr noInst)
  have hround : ∀ k, k < m → CodeOK Tryz.prog 0 20 dcB (dcF w k false) (dcH noInst) .normal (dcF w (k + 1) false) (dcH noInst) := fun k hk => by
    have hr := rnd fitsB decI w k (by omega)
    unfold dcL dcR at hr
    rw [show fitsB (rowAt k).form (rowAt k).opc (rowAt k).f3 (rowAt k).f7 w = false from h2 k hk, cond_false] at hr
    exact (RowOK.of_see decΨ_ok (ts := dcK) rfl hdB hr (by simp [dcH]) rfl (dcF_tr w (k + 1) false) (dcH_tr noInst)).code
  obtain ⟨fn, f1, f2, f3, f4⟩ := fnOf fn46
  by_cases hm : m < 69
  · have hret : CodeOK Tryz.prog 0 20 dcB (dcF w m false) (dcH noInst) .ret (dcF w m true) (dcH (decI (rowAt m).form (rowAt m).op w)) := by
      have hr := rnd fitsB decI w m hm
      unfold dcL dcR at hr
      rw [show fitsB (rowAt m).form (rowAt m).opc (rowAt m).f3 (rowAt m).f7 w = true from h3 hm, cond_true] at hr
      exact (RowOK.of_see decΨ_ok (ts := dcK) rfl hdB hr (by simp [dcH]) rfl (dcF_tr w m true) (dcH_tr _)).code
    have hloop := CodeOK.loop (fun k => dcF w k false) (fun _ => dcH noInst) m (by simp) hround hret
    have hall := hhead.app (RowOK.left (CodeOK.row (CodeOK.block (id := 0) hloop)) (by simp [outOf]) ((flat (bodyOf 46)).drop 3))
    rw [← dc_flat] at hall
    have hcall := CallOK.of_code decΨ_ok (f := 46) (fn := fn) (c := bodyOf 46) (args := [.int .u32 w]) (show (ctx (decΨ fitsB decI)).Fn 46 = some fn from f1) f2 (by rw [f3]; simp) (by rw [f3]; exact hall.code) (.inr rfl) (l := [instV (dec w).1, .bool (dec w).2]) (by
      rw [f4]
      have : dec w = (decI (rowAt m).form (rowAt m).op w, true) := by
        unfold dec; rw [hdec, if_pos (show m < table.length from hm)]; rfl
      rw [this]
      rfl)
    exact ⟨_, hcall⟩
  · obtain rfl : m = 69 := by omega
    have hend := (RowOK.of_see decΨ_ok (ts := dcK) rfl hdB (dc_end fitsB decI w) (by simp [dcH]) rfl (dcF_tr w 69 false) (dcH_tr noInst)).code
    have htail := RowOK.of_see decΨ_ok (ts := dcK) rfl hd2 (dc_tail fitsB decI w) (by simp [dcH]) rfl (dcF_tr w 69 false) (dcH_tr noInst)
    have hloop := CodeOK.loop (fun k => dcF w k false) (fun _ => dcH noInst) 69 (by simp) hround hend
    have hall := hhead.app (RowOK.app (CodeOK.row (CodeOK.block (id := 0) hloop)) htail)
    rw [← dc_flat] at hall
    have hcall := CallOK.of_code decΨ_ok (f := 46) (fn := fn) (c := bodyOf 46) (args := [.int .u32 w]) (show (ctx (decΨ fitsB decI)).Fn 46 = some fn from f1) f2 (by rw [f3]; simp) (by rw [f3]; exact hall.code) (.inr rfl) (l := [instV (dec w).1, .bool (dec w).2]) (by
      rw [f4]
      have : dec w = (noInst, false) := by
        unfold dec; rw [hdec, if_neg (show ¬ 69 < table.length by decide)]
      rw [this]
      rfl)
    exact ⟨_, hcall⟩
theorem decodeOK (w : Int) : PureOK Tryz.prog 46 [.int .u32 w] (decV w) := by
  obtain ⟨H', h⟩ := decode_call w
  exact PureOK.of_call h (Gh.plain rfl)
end Go.Proofs.YtgkicojmgokinaaGreatDoor.Ab.Isa
