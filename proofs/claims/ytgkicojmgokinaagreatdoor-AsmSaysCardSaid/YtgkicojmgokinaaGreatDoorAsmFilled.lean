/- Trimmed: AsmFilled -/
import Derived.Test.YtgkicojmgokinaaGreatDoorAsmRead
namespace Go.Proofs.YtgkicojmgokinaaGreatDoor.Ab
open Go Go.RowKit
set_option linter.unusedVariables false
set_option linter.unusedSimpArgs false
set_option maxRecDepth 100000
def nxV : Value → ByteArray
  | .func (.yield 1) ⟨.string s :: _⟩ _ => s
  | _ => ⟨⟨[]⟩⟩
def tlV : Value → Value
  | .func (.yield 1) ⟨_ :: r⟩ _ => gs 1 r r.length
  | v => v
def emV : Value → Bool
  | .func (.yield 1) ⟨_ :: _⟩ _ => false
  | _ => true
def isSh : Value → Bool
  | .string s => ln s
  | _ => false
def okL : Value → Bool
  | .slice none 0 0 => true
  | .func (.yield 1) ⟨xs⟩ ⟨[.int .i64 (.ofNat n)]⟩ => xs.all isSh && Nat.beq n xs.length
  | _ => false
theorem isSh_txts : ∀ {xs : List Value}, xs.all isSh = true → ∃ ls : List (List UInt8), xs = ls.map sv ∧ ∀ x ∈ ls, ln (bs x) = true
  | [], _ => ⟨[], rfl, fun x h => by cases h⟩
  | x :: xs, h => by
    simp only [List.all_cons, Bool.and_eq_true] at h
    obtain ⟨ls, e, hl⟩ := isSh_txts h.2
    cases x <;> first | (exact absurd h.1 Bool.false_ne_true) | skip
    rename_i s
    exact ⟨bytes s :: ls, by rw [List.map_cons, ← e]; rfl, fun x hx => by
      rcases List.mem_cons.1 hx with rfl | hx
      · exact h.1
      · exact hl x hx⟩
theorem okL_inv {l : Value} (h : okL l = true) : ∃ ls, l = lV ls ∧ ∀ xs, ls = some xs → ∀ x ∈ xs, ln (bs x) = true := by
  unfold okL at h
  split at h
  · exact ⟨none, rfl, fun _ e => by cases e⟩
  · rename_i xs n
    rw [Bool.and_eq_true] at h
    obtain ⟨ls, e, hl⟩ := isSh_txts h.1
    have hn := Nat.eq_of_beq_eq_true h.2
    refine ⟨some ls, ?_, fun xs' e' => by cases e'; exact hl⟩
    subst e
    rw [hn, List.length_map]
    rfl
  · cases h
theorem nxV_lV (ls : Option (List (List UInt8))) : nxV (lV ls) = bs (nxL ls) := by
  match ls with
  | none => rfl
  | some [] => rfl
  | some (x :: r) => rfl
theorem tlV_lV (ls : Option (List (List UInt8))) : tlV (lV ls) = lV (tlL ls) := by
  match ls with
  | none => rfl
  | some [] => rfl
  | some (x :: r) => show gs 1 (r.map sv) (r.map sv).length = gs 1 (r.map sv) r.length; rw [List.length_map]
theorem emV_lV (ls : Option (List (List UInt8))) : emV (lV ls) = emL ls := by
  match ls with
  | none => rfl
  | some [] => rfl
  | some (x :: r) => rfl
theorem nextCall0 {lo : Nat} {l : Value} (h : (Nat.beq lo 0 && okL l) = true) (A I : Option Blk) (b : Bool) : CallOK Tryz.prog lo 73 [rp] [A, I, some ⟨[l, .bool b], 80, none⟩] (.string (nxV l)) [A, I, some ⟨[tlV l, .bool (b || emV l)], 80, none⟩] := by
  obtain ⟨rfl, h⟩ := lo0 h
  obtain ⟨ls, rfl, _⟩ := okL_inv h
  rw [nxV_lV, tlV_lV, emV_lV]
  exact nextCall A I ls b
noncomputable def fillΦ (Nx : Value → ByteArray) (Tl : Value → Value) (Em Ok : Value → Bool) (Rn : ByteArray → Int) (Rb : ByteArray → Bool) (Cn : ByteArray → Int) (Cb : ByteArray → Bool) (Nn : ByteArray → Int) (Nb : ByteArray → Bool) (Lt : ByteArray → ByteArray) (Ln : ByteArray → Int) (Lb : ByteArray → Bool) : Oracle := fun lo f args H => match f with
  | 62 => match args with
    | [.int .i64 n] => some [(isOp n, .int .i64 (kindF n), H)]
    | _ => none
  | 72 => match args, H with
    | [.pointer (some ⟨2, 0, none⟩), .string s], [A, I, some ⟨[l, .bool b], 80, none⟩] => some [(Nat.beq lo 0 && ln s, .int .i64 (Rn s), [A, I, some ⟨[l, .bool (b || Rb s)], 80, none⟩])]
    | _, _ => none
  | 73 => match args, H with
    | [.pointer (some ⟨2, 0, none⟩)], [A, I, some ⟨[l, .bool b], 80, none⟩] => some [(Nat.beq lo 0 && Ok l, .string (Nx l), [A, I, some ⟨[Tl l, .bool (b || Em l)], 80, none⟩])]
    | _, _ => none
  | 74 => match args, H with
    | [.pointer (some ⟨2, 0, none⟩), .string s], [A, I, some ⟨[l, .bool b], 80, none⟩] => some [(Nat.beq lo 0 && ln s, .int .u32 (Nn s), [A, I, some ⟨[l, .bool (b || Nb s)], 80, none⟩])]
    | _, _ => none
  | 75 => match args, H with
    | [.pointer (some ⟨2, 0, none⟩), .string s], [A, I, some ⟨[l, .bool b], 80, none⟩] => some [(Nat.beq lo 0 && ln s, .int .i64 (Cn s), [A, I, some ⟨[l, .bool (b || Cb s)], 80, none⟩])]
    | _, _ => none
  | 76 => match args, H with
    | [.pointer (some ⟨2, 0, none⟩), .string s], [A, I, some ⟨[l, .bool b], 80, none⟩] => some [(Nat.beq lo 0 && ln s, .tuple #[.string (Lt s), .int .i64 (Ln s)], [A, I, some ⟨[l, .bool (b || Lb s)], 80, none⟩])]
    | _, _ => none
  | _ => none
theorem fillΦ_ok : CtxOK Tryz.prog (ctx (fillΦ nxV tlV emV okL regN regB csrN csrB numN numB liT liN liB)) := ctxOK fun lo f args H l v H' h hm => by
  unfold fillΦ at h
  split at h
  · split at h
    · cases h
      simp only [List.mem_cons, List.not_mem_nil, or_false, Prod.mk.injEq] at hm
      obtain ⟨hc, rfl, rfl⟩ := hm
      exact ⟨(kindOK hc.symm).call (gh_plains rfl) lo H', rfl⟩
    · cases h
  · split at h
    · cases h
      simp only [List.mem_cons, List.not_mem_nil, or_false, Prod.mk.injEq] at hm
      obtain ⟨hc, rfl, rfl⟩ := hm
      exact ⟨regCall0 hc.symm _ _ _ _, rfl⟩
    · cases h
  · split at h
    · cases h
      simp only [List.mem_cons, List.not_mem_nil, or_false, Prod.mk.injEq] at hm
      obtain ⟨hc, rfl, rfl⟩ := hm
      exact ⟨nextCall0 hc.symm _ _ _, rfl⟩
    · cases h
  · split at h
    · cases h
      simp only [List.mem_cons, List.not_mem_nil, or_false, Prod.mk.injEq] at hm
      obtain ⟨hc, rfl, rfl⟩ := hm
      exact ⟨numCall0 hc.symm _ _ _ _, rfl⟩
    · cases h
  · split at h
    · cases h
      simp only [List.mem_cons, List.not_mem_nil, or_false, Prod.mk.injEq] at hm
      obtain ⟨hc, rfl, rfl⟩ := hm
      exact ⟨csrCall0 hc.symm _ _ _ _, rfl⟩
    · cases h
  · split at h
    · cases h
      simp only [List.mem_cons, List.not_mem_nil, or_false, Prod.mk.injEq] at hm
      obtain ⟨hc, rfl, rfl⟩ := hm
      exact ⟨liesCall0 hc.symm _ _ _ _, rfl⟩
    · cases h
  · cases h
def fillT0 (Nx : Value → ByteArray) (Tl : Value → Value) (Em Ok : Value → Bool) (Rn : ByteArray → Int) (Rb : ByteArray → Bool) (Cn : ByteArray → Int) (Cb : ByteArray → Bool) (Nn : ByteArray → Int) (Nb : ByteArray → Bool) (Lt : ByteArray → ByteArray) (Ln : ByteArray → Int) (Lb : ByteArray → Bool) (A : Option Blk) (l : Value) (b : Bool) (op rd rs1 rs2 csr imm : Int) (aq rl : Bool) : Option (Value × Heap) := bif Ok l then (bif ln (Nx l) then (bif Ok (Tl l) then (bif ln (Nx (Tl l)) then (some (.tuple #[], [A, some ⟨instC ⟨op, Rn (Nx l), rs1, rs2, csr, IntKind.u32.wrap (Nn (Nx (Tl l)) * 4096), aq, rl⟩, 24, none⟩, some ⟨[(Tl (Tl l)), .bool ((((b || Em l) || Rb (Nx l)) || Em (Tl l)) || Nb (Nx (Tl l)))], 80, none⟩])) else none) else none) else none) else none
def fillT1 (Nx : Value → ByteArray) (Tl : Value → Value) (Em Ok : Value → Bool) (Rn : ByteArray → Int) (Rb : ByteArray → Bool) (Cn : ByteArray → Int) (Cb : ByteArray → Bool) (Nn : ByteArray → Int) (Nb : ByteArray → Bool) (Lt : ByteArray → ByteArray) (Ln : ByteArray → Int) (Lb : ByteArray → Bool) (A : Option Blk) (l : Value) (b : Bool) (op rd rs1 rs2 csr imm : Int) (aq rl : Bool) : Option (Value × Heap) := bif Ok l then (bif ln (Nx l) then (bif Ok (Tl l) then (bif ln (Nx (Tl l)) then (some (.tuple #[], [A, some ⟨instC ⟨op, Rn (Nx l), rs1, rs2, csr, Nn (Nx (Tl l)), aq, rl⟩, 24, none⟩, some ⟨[(Tl (Tl l)), .bool ((((b || Em l) || Rb (Nx l)) || Em (Tl l)) || Nb (Nx (Tl l)))], 80, none⟩])) else none) else none) else none) else none
def fillT2 (Nx : Value → ByteArray) (Tl : Value → Value) (Em Ok : Value → Bool) (Rn : ByteArray → Int) (Rb : ByteArray → Bool) (Cn : ByteArray → Int) (Cb : ByteArray → Bool) (Nn : ByteArray → Int) (Nb : ByteArray → Bool) (Lt : ByteArray → ByteArray) (Ln : ByteArray → Int) (Lb : ByteArray → Bool) (A : Option Blk) (l : Value) (b : Bool) (op rd rs1 rs2 csr imm : Int) (aq rl : Bool) : Option (Value × Heap) := bif Ok l then (bif ln (Nx l) then (bif Ok (Tl l) then (bif ln (Nx (Tl l)) then (bif ln (Lt (Nx (Tl l))) then (some (.tuple #[], [A, some ⟨instC ⟨op, Rn (Nx l), Ln (Nx (Tl l)), rs2, csr, Nn (Lt (Nx (Tl l))), aq, rl⟩, 24, none⟩, some ⟨[(Tl (Tl l)), .bool (((((b || Em l) || Rb (Nx l)) || Em (Tl l)) || Lb (Nx (Tl l))) || Nb (Lt (Nx (Tl l))))], 80, none⟩])) else none) else none) else none) else none) else none
def fillT3 (Nx : Value → ByteArray) (Tl : Value → Value) (Em Ok : Value → Bool) (Rn : ByteArray → Int) (Rb : ByteArray → Bool) (Cn : ByteArray → Int) (Cb : ByteArray → Bool) (Nn : ByteArray → Int) (Nb : ByteArray → Bool) (Lt : ByteArray → ByteArray) (Ln : ByteArray → Int) (Lb : ByteArray → Bool) (A : Option Blk) (l : Value) (b : Bool) (op rd rs1 rs2 csr imm : Int) (aq rl : Bool) : Option (Value × Heap) := bif Ok l then (bif ln (Nx l) then (bif Ok (Tl l) then (bif ln (Nx (Tl l)) then (bif Ok (Tl (Tl l)) then (bif ln (Nx (Tl (Tl l))) then (some (.tuple #[], [A, some ⟨instC ⟨op, rd, Rn (Nx l), Rn (Nx (Tl l)), csr, Nn (Nx (Tl (Tl l))), aq, rl⟩, 24, none⟩, some ⟨[(Tl (Tl (Tl l))), .bool ((((((b || Em l) || Rb (Nx l)) || Em (Tl l)) || Rb (Nx (Tl l))) || Em (Tl (Tl l))) || Nb (Nx (Tl (Tl l))))], 80, none⟩])) else none) else none) else none) else none) else none) else none
def fillT4 (Nx : Value → ByteArray) (Tl : Value → Value) (Em Ok : Value → Bool) (Rn : ByteArray → Int) (Rb : ByteArray → Bool) (Cn : ByteArray → Int) (Cb : ByteArray → Bool) (Nn : ByteArray → Int) (Nb : ByteArray → Bool) (Lt : ByteArray → ByteArray) (Ln : ByteArray → Int) (Lb : ByteArray → Bool) (A : Option Blk) (l : Value) (b : Bool) (op rd rs1 rs2 csr imm : Int) (aq rl : Bool) : Option (Value × Heap) := bif Ok l then (bif ln (Nx l) then (bif Ok (Tl l) then (bif ln (Nx (Tl l)) then (bif ln (Lt (Nx (Tl l))) then (some (.tuple #[], [A, some ⟨instC ⟨op, rd, Ln (Nx (Tl l)), Rn (Nx l), csr, Nn (Lt (Nx (Tl l))), aq, rl⟩, 24, none⟩, some ⟨[(Tl (Tl l)), .bool (((((b || Em l) || Rb (Nx l)) || Em (Tl l)) || Lb (Nx (Tl l))) || Nb (Lt (Nx (Tl l))))], 80, none⟩])) else none) else none) else none) else none) else none
def fillT5 (Nx : Value → ByteArray) (Tl : Value → Value) (Em Ok : Value → Bool) (Rn : ByteArray → Int) (Rb : ByteArray → Bool) (Cn : ByteArray → Int) (Cb : ByteArray → Bool) (Nn : ByteArray → Int) (Nb : ByteArray → Bool) (Lt : ByteArray → ByteArray) (Ln : ByteArray → Int) (Lb : ByteArray → Bool) (A : Option Blk) (l : Value) (b : Bool) (op rd rs1 rs2 csr imm : Int) (aq rl : Bool) : Option (Value × Heap) := bif Ok l then (bif ln (Nx l) then (bif Ok (Tl l) then (bif ln (Nx (Tl l)) then (bif Ok (Tl (Tl l)) then (bif ln (Nx (Tl (Tl l))) then (some (.tuple #[], [A, some ⟨instC ⟨op, Rn (Nx l), Rn (Nx (Tl l)), rs2, csr, Nn (Nx (Tl (Tl l))), aq, rl⟩, 24, none⟩, some ⟨[(Tl (Tl (Tl l))), .bool ((((((b || Em l) || Rb (Nx l)) || Em (Tl l)) || Rb (Nx (Tl l))) || Em (Tl (Tl l))) || Nb (Nx (Tl (Tl l))))], 80, none⟩])) else none) else none) else none) else none) else none) else none
def fillT6 (Nx : Value → ByteArray) (Tl : Value → Value) (Em Ok : Value → Bool) (Rn : ByteArray → Int) (Rb : ByteArray → Bool) (Cn : ByteArray → Int) (Cb : ByteArray → Bool) (Nn : ByteArray → Int) (Nb : ByteArray → Bool) (Lt : ByteArray → ByteArray) (Ln : ByteArray → Int) (Lb : ByteArray → Bool) (A : Option Blk) (l : Value) (b : Bool) (op rd rs1 rs2 csr imm : Int) (aq rl : Bool) : Option (Value × Heap) := bif Ok l then (bif ln (Nx l) then (bif Ok (Tl l) then (bif ln (Nx (Tl l)) then (bif Ok (Tl (Tl l)) then (bif ln (Nx (Tl (Tl l))) then (some (.tuple #[], [A, some ⟨instC ⟨op, Rn (Nx l), Rn (Nx (Tl l)), rs2, csr, Nn (Nx (Tl (Tl l))), aq, rl⟩, 24, none⟩, some ⟨[(Tl (Tl (Tl l))), .bool ((((((b || Em l) || Rb (Nx l)) || Em (Tl l)) || Rb (Nx (Tl l))) || Em (Tl (Tl l))) || Nb (Nx (Tl (Tl l))))], 80, none⟩])) else none) else none) else none) else none) else none) else none
def fillT7 (Nx : Value → ByteArray) (Tl : Value → Value) (Em Ok : Value → Bool) (Rn : ByteArray → Int) (Rb : ByteArray → Bool) (Cn : ByteArray → Int) (Cb : ByteArray → Bool) (Nn : ByteArray → Int) (Nb : ByteArray → Bool) (Lt : ByteArray → ByteArray) (Ln : ByteArray → Int) (Lb : ByteArray → Bool) (A : Option Blk) (l : Value) (b : Bool) (op rd rs1 rs2 csr imm : Int) (aq rl : Bool) : Option (Value × Heap) := bif Ok l then (bif ln (Nx l) then (bif Ok (Tl l) then (bif ln (Nx (Tl l)) then (bif Ok (Tl (Tl l)) then (bif ln (Nx (Tl (Tl l))) then (some (.tuple #[], [A, some ⟨instC ⟨op, Rn (Nx l), Rn (Nx (Tl l)), Rn (Nx (Tl (Tl l))), csr, imm, aq, rl⟩, 24, none⟩, some ⟨[(Tl (Tl (Tl l))), .bool ((((((b || Em l) || Rb (Nx l)) || Em (Tl l)) || Rb (Nx (Tl l))) || Em (Tl (Tl l))) || Rb (Nx (Tl (Tl l))))], 80, none⟩])) else none) else none) else none) else none) else none) else none
def fillT8 (Nx : Value → ByteArray) (Tl : Value → Value) (Em Ok : Value → Bool) (Rn : ByteArray → Int) (Rb : ByteArray → Bool) (Cn : ByteArray → Int) (Cb : ByteArray → Bool) (Nn : ByteArray → Int) (Nb : ByteArray → Bool) (Lt : ByteArray → ByteArray) (Ln : ByteArray → Int) (Lb : ByteArray → Bool) (A : Option Blk) (l : Value) (b : Bool) (op rd rs1 rs2 csr imm : Int) (aq rl : Bool) : Option (Value × Heap) := bif Ok l then (bif ln (Nx l) then (bif Ok (Tl l) then (bif ln (Nx (Tl l)) then (some (.tuple #[], [A, some ⟨instC ⟨op, rd, rs1, rs2, csr, bits .or .u32 (IntKind.u32.wrap (Nn (Nx l) * 16)) (Nn (Nx (Tl l))), aq, rl⟩, 24, none⟩, some ⟨[(Tl (Tl l)), .bool ((((b || Em l) || Nb (Nx l)) || Em (Tl l)) || Nb (Nx (Tl l)))], 80, none⟩])) else none) else none) else none) else none
def fillT9 (Nx : Value → ByteArray) (Tl : Value → Value) (Em Ok : Value → Bool) (Rn : ByteArray → Int) (Rb : ByteArray → Bool) (Cn : ByteArray → Int) (Cb : ByteArray → Bool) (Nn : ByteArray → Int) (Nb : ByteArray → Bool) (Lt : ByteArray → ByteArray) (Ln : ByteArray → Int) (Lb : ByteArray → Bool) (A : Option Blk) (l : Value) (b : Bool) (op rd rs1 rs2 csr imm : Int) (aq rl : Bool) : Option (Value × Heap) := some (.tuple #[], [A, some ⟨instC ⟨op, rd, rs1, rs2, csr, imm, aq, rl⟩, 24, none⟩, some ⟨[l, .bool b], 80, none⟩])
def fillT10 (Nx : Value → ByteArray) (Tl : Value → Value) (Em Ok : Value → Bool) (Rn : ByteArray → Int) (Rb : ByteArray → Bool) (Cn : ByteArray → Int) (Cb : ByteArray → Bool) (Nn : ByteArray → Int) (Nb : ByteArray → Bool) (Lt : ByteArray → ByteArray) (Ln : ByteArray → Int) (Lb : ByteArray → Bool) (A : Option Blk) (l : Value) (b : Bool) (op rd rs1 rs2 csr imm : Int) (aq rl : Bool) : Option (Value × Heap) := bif Ok l then (bif ln (Nx l) then (bif Ok (Tl l) then (bif ln (Nx (Tl l)) then (some (.tuple #[], [A, some ⟨instC ⟨op, rd, Rn (Nx l), Rn (Nx (Tl l)), csr, imm, aq, rl⟩, 24, none⟩, some ⟨[(Tl (Tl l)), .bool ((((b || Em l) || Rb (Nx l)) || Em (Tl l)) || Rb (Nx (Tl l)))], 80, none⟩])) else none) else none) else none) else none
def fillT11 (Nx : Value → ByteArray) (Tl : Value → Value) (Em Ok : Value → Bool) (Rn : ByteArray → Int) (Rb : ByteArray → Bool) (Cn : ByteArray → Int) (Cb : ByteArray → Bool) (Nn : ByteArray → Int) (Nb : ByteArray → Bool) (Lt : ByteArray → ByteArray) (Ln : ByteArray → Int) (Lb : ByteArray → Bool) (A : Option Blk) (l : Value) (b : Bool) (op rd rs1 rs2 csr imm : Int) (aq rl : Bool) : Option (Value × Heap) := bif Ok l then (bif ln (Nx l) then (bif Ok (Tl l) then (bif ln (Nx (Tl l)) then (bif Ok (Tl (Tl l)) then (bif ln (Nx (Tl (Tl l))) then (some (.tuple #[], [A, some ⟨instC ⟨op, Rn (Nx l), Rn (Nx (Tl (Tl l))), rs2, Cn (Nx (Tl l)), imm, aq, rl⟩, 24, none⟩, some ⟨[(Tl (Tl (Tl l))), .bool ((((((b || Em l) || Rb (Nx l)) || Em (Tl l)) || Cb (Nx (Tl l))) || Em (Tl (Tl l))) || Rb (Nx (Tl (Tl l))))], 80, none⟩])) else none) else none) else none) else none) else none) else none
def fillT12 (Nx : Value → ByteArray) (Tl : Value → Value) (Em Ok : Value → Bool) (Rn : ByteArray → Int) (Rb : ByteArray → Bool) (Cn : ByteArray → Int) (Cb : ByteArray → Bool) (Nn : ByteArray → Int) (Nb : ByteArray → Bool) (Lt : ByteArray → ByteArray) (Ln : ByteArray → Int) (Lb : ByteArray → Bool) (A : Option Blk) (l : Value) (b : Bool) (op rd rs1 rs2 csr imm : Int) (aq rl : Bool) : Option (Value × Heap) := bif Ok l then (bif ln (Nx l) then (bif Ok (Tl l) then (bif ln (Nx (Tl l)) then (bif Ok (Tl (Tl l)) then (bif ln (Nx (Tl (Tl l))) then (some (.tuple #[], [A, some ⟨instC ⟨op, Rn (Nx l), rs1, rs2, Cn (Nx (Tl l)), Nn (Nx (Tl (Tl l))), aq, rl⟩, 24, none⟩, some ⟨[(Tl (Tl (Tl l))), .bool ((((((b || Em l) || Rb (Nx l)) || Em (Tl l)) || Cb (Nx (Tl l))) || Em (Tl (Tl l))) || Nb (Nx (Tl (Tl l))))], 80, none⟩])) else none) else none) else none) else none) else none) else none
def fillT13 (Nx : Value → ByteArray) (Tl : Value → Value) (Em Ok : Value → Bool) (Rn : ByteArray → Int) (Rb : ByteArray → Bool) (Cn : ByteArray → Int) (Cb : ByteArray → Bool) (Nn : ByteArray → Int) (Nb : ByteArray → Bool) (Lt : ByteArray → ByteArray) (Ln : ByteArray → Int) (Lb : ByteArray → Bool) (A : Option Blk) (l : Value) (b : Bool) (op rd rs1 rs2 csr imm : Int) (aq rl : Bool) : Option (Value × Heap) := bif Ok l then (bif ln (Nx l) then (bif Ok (Tl l) then (bif ln (Nx (Tl l)) then (some (.tuple #[], [A, some ⟨instC ⟨op, Rn (Nx l), Ln (Nx (Tl l)), rs2, csr, imm, aq, rl⟩, 24, none⟩, some ⟨[(Tl (Tl l)), .bool ((((b || Em l) || Rb (Nx l)) || Em (Tl l)) || Lb (Nx (Tl l)))], 80, none⟩])) else none) else none) else none) else none
def fillT14 (Nx : Value → ByteArray) (Tl : Value → Value) (Em Ok : Value → Bool) (Rn : ByteArray → Int) (Rb : ByteArray → Bool) (Cn : ByteArray → Int) (Cb : ByteArray → Bool) (Nn : ByteArray → Int) (Nb : ByteArray → Bool) (Lt : ByteArray → ByteArray) (Ln : ByteArray → Int) (Lb : ByteArray → Bool) (A : Option Blk) (l : Value) (b : Bool) (op rd rs1 rs2 csr imm : Int) (aq rl : Bool) : Option (Value × Heap) := bif Ok l then (bif ln (Nx l) then (bif Ok (Tl l) then (bif ln (Nx (Tl l)) then (bif Ok (Tl (Tl l)) then (bif ln (Nx (Tl (Tl l))) then (some (.tuple #[], [A, some ⟨instC ⟨op, Rn (Nx l), Ln (Nx (Tl (Tl l))), Rn (Nx (Tl l)), csr, imm, aq, rl⟩, 24, none⟩, some ⟨[(Tl (Tl (Tl l))), .bool ((((((b || Em l) || Rb (Nx l)) || Em (Tl l)) || Rb (Nx (Tl l))) || Em (Tl (Tl l))) || Lb (Nx (Tl (Tl l))))], 80, none⟩])) else none) else none) else none) else none) else none) else none
theorem fill0 (Nx : Value → ByteArray) (Tl : Value → Value) (Em Ok : Value → Bool) (Rn : ByteArray → Int) (Rb : ByteArray → Bool) (Cn : ByteArray → Int) (Cb : ByteArray → Bool) (Nn : ByteArray → Int) (Nb : ByteArray → Bool) (Lt : ByteArray → ByteArray) (Ln : ByteArray → Int) (Lb : ByteArray → Bool) (A : Option Blk) (l : Value) (b : Bool) (rd rs1 rs2 csr imm : Int) (aq rl : Bool) : callK (ctx (fillΦ Nx Tl Em Ok Rn Rb Cn Cb Nn Nb Lt Ln Lb)) 20 0 41 [rp, .pointer (some ⟨1, 0, none⟩)] [A, some ⟨instC ⟨1, rd, rs1, rs2, csr, imm, aq, rl⟩, 24, none⟩, some ⟨[l, .bool b], 80, none⟩] vh = fillT0 Nx Tl Em Ok Rn Rb Cn Cb Nn Nb Lt Ln Lb A l b 1 rd rs1 rs2 csr imm aq rl := by kernel_rfl
theorem fill1 (Nx : Value → ByteArray) (Tl : Value → Value) (Em Ok : Value → Bool) (Rn : ByteArray → Int) (Rb : ByteArray → Bool) (Cn : ByteArray → Int) (Cb : ByteArray → Bool) (Nn : ByteArray → Int) (Nb : ByteArray → Bool) (Lt : ByteArray → ByteArray) (Ln : ByteArray → Int) (Lb : ByteArray → Bool) (A : Option Blk) (l : Value) (b : Bool) (rd rs1 rs2 csr imm : Int) (aq rl : Bool) : callK (ctx (fillΦ Nx Tl Em Ok Rn Rb Cn Cb Nn Nb Lt Ln Lb)) 20 0 41 [rp, .pointer (some ⟨1, 0, none⟩)] [A, some ⟨instC ⟨2, rd, rs1, rs2, csr, imm, aq, rl⟩, 24, none⟩, some ⟨[l, .bool b], 80, none⟩] vh = fillT0 Nx Tl Em Ok Rn Rb Cn Cb Nn Nb Lt Ln Lb A l b 2 rd rs1 rs2 csr imm aq rl := by kernel_rfl
theorem fill2 (Nx : Value → ByteArray) (Tl : Value → Value) (Em Ok : Value → Bool) (Rn : ByteArray → Int) (Rb : ByteArray → Bool) (Cn : ByteArray → Int) (Cb : ByteArray → Bool) (Nn : ByteArray → Int) (Nb : ByteArray → Bool) (Lt : ByteArray → ByteArray) (Ln : ByteArray → Int) (Lb : ByteArray → Bool) (A : Option Blk) (l : Value) (b : Bool) (rd rs1 rs2 csr imm : Int) (aq rl : Bool) : callK (ctx (fillΦ Nx Tl Em Ok Rn Rb Cn Cb Nn Nb Lt Ln Lb)) 20 0 41 [rp, .pointer (some ⟨1, 0, none⟩)] [A, some ⟨instC ⟨3, rd, rs1, rs2, csr, imm, aq, rl⟩, 24, none⟩, some ⟨[l, .bool b], 80, none⟩] vh = fillT1 Nx Tl Em Ok Rn Rb Cn Cb Nn Nb Lt Ln Lb A l b 3 rd rs1 rs2 csr imm aq rl := by kernel_rfl
theorem fill3 (Nx : Value → ByteArray) (Tl : Value → Value) (Em Ok : Value → Bool) (Rn : ByteArray → Int) (Rb : ByteArray → Bool) (Cn : ByteArray → Int) (Cb : ByteArray → Bool) (Nn : ByteArray → Int) (Nb : ByteArray → Bool) (Lt : ByteArray → ByteArray) (Ln : ByteArray → Int) (Lb : ByteArray → Bool) (A : Option Blk) (l : Value) (b : Bool) (rd rs1 rs2 csr imm : Int) (aq rl : Bool) : callK (ctx (fillΦ Nx Tl Em Ok Rn Rb Cn Cb Nn Nb Lt Ln Lb)) 20 0 41 [rp, .pointer (some ⟨1, 0, none⟩)] [A, some ⟨instC ⟨4, rd, rs1, rs2, csr, imm, aq, rl⟩, 24, none⟩, some ⟨[l, .bool b], 80, none⟩] vh = fillT2 Nx Tl Em Ok Rn Rb Cn Cb Nn Nb Lt Ln Lb A l b 4 rd rs1 rs2 csr imm aq rl := by kernel_rfl
theorem fill4 (Nx : Value → ByteArray) (Tl : Value → Value) (Em Ok : Value → Bool) (Rn : ByteArray → Int) (Rb : ByteArray → Bool) (Cn : ByteArray → Int) (Cb : ByteArray → Bool) (Nn : ByteArray → Int) (Nb : ByteArray → Bool) (Lt : ByteArray → ByteArray) (Ln : ByteArray → Int) (Lb : ByteArray → Bool) (A : Option Blk) (l : Value) (b : Bool) (rd rs1 rs2 csr imm : Int) (aq rl : Bool) : callK (ctx (fillΦ Nx Tl Em Ok Rn Rb Cn Cb Nn Nb Lt Ln Lb)) 20 0 41 [rp, .pointer (some ⟨1, 0, none⟩)] [A, some ⟨instC ⟨5, rd, rs1, rs2, csr, imm, aq, rl⟩, 24, none⟩, some ⟨[l, .bool b], 80, none⟩] vh = fillT3 Nx Tl Em Ok Rn Rb Cn Cb Nn Nb Lt Ln Lb A l b 5 rd rs1 rs2 csr imm aq rl := by kernel_rfl
theorem fill5 (Nx : Value → ByteArray) (Tl : Value → Value) (Em Ok : Value → Bool) (Rn : ByteArray → Int) (Rb : ByteArray → Bool) (Cn : ByteArray → Int) (Cb : ByteArray → Bool) (Nn : ByteArray → Int) (Nb : ByteArray → Bool) (Lt : ByteArray → ByteArray) (Ln : ByteArray → Int) (Lb : ByteArray → Bool) (A : Option Blk) (l : Value) (b : Bool) (rd rs1 rs2 csr imm : Int) (aq rl : Bool) : callK (ctx (fillΦ Nx Tl Em Ok Rn Rb Cn Cb Nn Nb Lt Ln Lb)) 20 0 41 [rp, .pointer (some ⟨1, 0, none⟩)] [A, some ⟨instC ⟨6, rd, rs1, rs2, csr, imm, aq, rl⟩, 24, none⟩, some ⟨[l, .bool b], 80, none⟩] vh = fillT3 Nx Tl Em Ok Rn Rb Cn Cb Nn Nb Lt Ln Lb A l b 6 rd rs1 rs2 csr imm aq rl := by kernel_rfl
theorem fill6 (Nx : Value → ByteArray) (Tl : Value → Value) (Em Ok : Value → Bool) (Rn : ByteArray → Int) (Rb : ByteArray → Bool) (Cn : ByteArray → Int) (Cb : ByteArray → Bool) (Nn : ByteArray → Int) (Nb : ByteArray → Bool) (Lt : ByteArray → ByteArray) (Ln : ByteArray → Int) (Lb : ByteArray → Bool) (A : Option Blk) (l : Value) (b : Bool) (rd rs1 rs2 csr imm : Int) (aq rl : Bool) : callK (ctx (fillΦ Nx Tl Em Ok Rn Rb Cn Cb Nn Nb Lt Ln Lb)) 20 0 41 [rp, .pointer (some ⟨1, 0, none⟩)] [A, some ⟨instC ⟨7, rd, rs1, rs2, csr, imm, aq, rl⟩, 24, none⟩, some ⟨[l, .bool b], 80, none⟩] vh = fillT3 Nx Tl Em Ok Rn Rb Cn Cb Nn Nb Lt Ln Lb A l b 7 rd rs1 rs2 csr imm aq rl := by kernel_rfl
theorem fill7 (Nx : Value → ByteArray) (Tl : Value → Value) (Em Ok : Value → Bool) (Rn : ByteArray → Int) (Rb : ByteArray → Bool) (Cn : ByteArray → Int) (Cb : ByteArray → Bool) (Nn : ByteArray → Int) (Nb : ByteArray → Bool) (Lt : ByteArray → ByteArray) (Ln : ByteArray → Int) (Lb : ByteArray → Bool) (A : Option Blk) (l : Value) (b : Bool) (rd rs1 rs2 csr imm : Int) (aq rl : Bool) : callK (ctx (fillΦ Nx Tl Em Ok Rn Rb Cn Cb Nn Nb Lt Ln Lb)) 20 0 41 [rp, .pointer (some ⟨1, 0, none⟩)] [A, some ⟨instC ⟨8, rd, rs1, rs2, csr, imm, aq, rl⟩, 24, none⟩, some ⟨[l, .bool b], 80, none⟩] vh = fillT3 Nx Tl Em Ok Rn Rb Cn Cb Nn Nb Lt Ln Lb A l b 8 rd rs1 rs2 csr imm aq rl := by kernel_rfl
theorem fill8 (Nx : Value → ByteArray) (Tl : Value → Value) (Em Ok : Value → Bool) (Rn : ByteArray → Int) (Rb : ByteArray → Bool) (Cn : ByteArray → Int) (Cb : ByteArray → Bool) (Nn : ByteArray → Int) (Nb : ByteArray → Bool) (Lt : ByteArray → ByteArray) (Ln : ByteArray → Int) (Lb : ByteArray → Bool) (A : Option Blk) (l : Value) (b : Bool) (rd rs1 rs2 csr imm : Int) (aq rl : Bool) : callK (ctx (fillΦ Nx Tl Em Ok Rn Rb Cn Cb Nn Nb Lt Ln Lb)) 20 0 41 [rp, .pointer (some ⟨1, 0, none⟩)] [A, some ⟨instC ⟨9, rd, rs1, rs2, csr, imm, aq, rl⟩, 24, none⟩, some ⟨[l, .bool b], 80, none⟩] vh = fillT3 Nx Tl Em Ok Rn Rb Cn Cb Nn Nb Lt Ln Lb A l b 9 rd rs1 rs2 csr imm aq rl := by kernel_rfl
theorem fill9 (Nx : Value → ByteArray) (Tl : Value → Value) (Em Ok : Value → Bool) (Rn : ByteArray → Int) (Rb : ByteArray → Bool) (Cn : ByteArray → Int) (Cb : ByteArray → Bool) (Nn : ByteArray → Int) (Nb : ByteArray → Bool) (Lt : ByteArray → ByteArray) (Ln : ByteArray → Int) (Lb : ByteArray → Bool) (A : Option Blk) (l : Value) (b : Bool) (rd rs1 rs2 csr imm : Int) (aq rl : Bool) : callK (ctx (fillΦ Nx Tl Em Ok Rn Rb Cn Cb Nn Nb Lt Ln Lb)) 20 0 41 [rp, .pointer (some ⟨1, 0, none⟩)] [A, some ⟨instC ⟨10, rd, rs1, rs2, csr, imm, aq, rl⟩, 24, none⟩, some ⟨[l, .bool b], 80, none⟩] vh = fillT3 Nx Tl Em Ok Rn Rb Cn Cb Nn Nb Lt Ln Lb A l b 10 rd rs1 rs2 csr imm aq rl := by kernel_rfl
theorem fill10 (Nx : Value → ByteArray) (Tl : Value → Value) (Em Ok : Value → Bool) (Rn : ByteArray → Int) (Rb : ByteArray → Bool) (Cn : ByteArray → Int) (Cb : ByteArray → Bool) (Nn : ByteArray → Int) (Nb : ByteArray → Bool) (Lt : ByteArray → ByteArray) (Ln : ByteArray → Int) (Lb : ByteArray → Bool) (A : Option Blk) (l : Value) (b : Bool) (rd rs1 rs2 csr imm : Int) (aq rl : Bool) : callK (ctx (fillΦ Nx Tl Em Ok Rn Rb Cn Cb Nn Nb Lt Ln Lb)) 20 0 41 [rp, .pointer (some ⟨1, 0, none⟩)] [A, some ⟨instC ⟨11, rd, rs1, rs2, csr, imm, aq, rl⟩, 24, none⟩, some ⟨[l, .bool b], 80, none⟩] vh = fillT2 Nx Tl Em Ok Rn Rb Cn Cb Nn Nb Lt Ln Lb A l b 11 rd rs1 rs2 csr imm aq rl := by kernel_rfl
theorem fill11 (Nx : Value → ByteArray) (Tl : Value → Value) (Em Ok : Value → Bool) (Rn : ByteArray → Int) (Rb : ByteArray → Bool) (Cn : ByteArray → Int) (Cb : ByteArray → Bool) (Nn : ByteArray → Int) (Nb : ByteArray → Bool) (Lt : ByteArray → ByteArray) (Ln : ByteArray → Int) (Lb : ByteArray → Bool) (A : Option Blk) (l : Value) (b : Bool) (rd rs1 rs2 csr imm : Int) (aq rl : Bool) : callK (ctx (fillΦ Nx Tl Em Ok Rn Rb Cn Cb Nn Nb Lt Ln Lb)) 20 0 41 [rp, .pointer (some ⟨1, 0, none⟩)] [A, some ⟨instC ⟨12, rd, rs1, rs2, csr, imm, aq, rl⟩, 24, none⟩, some ⟨[l, .bool b], 80, none⟩] vh = fillT2 Nx Tl Em Ok Rn Rb Cn Cb Nn Nb Lt Ln Lb A l b 12 rd rs1 rs2 csr imm aq rl := by kernel_rfl
theorem fill12 (Nx : Value → ByteArray) (Tl : Value → Value) (Em Ok : Value → Bool) (Rn : ByteArray → Int) (Rb : ByteArray → Bool) (Cn : ByteArray → Int) (Cb : ByteArray → Bool) (Nn : ByteArray → Int) (Nb : ByteArray → Bool) (Lt : ByteArray → ByteArray) (Ln : ByteArray → Int) (Lb : ByteArray → Bool) (A : Option Blk) (l : Value) (b : Bool) (rd rs1 rs2 csr imm : Int) (aq rl : Bool) : callK (ctx (fillΦ Nx Tl Em Ok Rn Rb Cn Cb Nn Nb Lt Ln Lb)) 20 0 41 [rp, .pointer (some ⟨1, 0, none⟩)] [A, some ⟨instC ⟨13, rd, rs1, rs2, csr, imm, aq, rl⟩, 24, none⟩, some ⟨[l, .bool b], 80, none⟩] vh = fillT2 Nx Tl Em Ok Rn Rb Cn Cb Nn Nb Lt Ln Lb A l b 13 rd rs1 rs2 csr imm aq rl := by kernel_rfl
theorem fill13 (Nx : Value → ByteArray) (Tl : Value → Value) (Em Ok : Value → Bool) (Rn : ByteArray → Int) (Rb : ByteArray → Bool) (Cn : ByteArray → Int) (Cb : ByteArray → Bool) (Nn : ByteArray → Int) (Nb : ByteArray → Bool) (Lt : ByteArray → ByteArray) (Ln : ByteArray → Int) (Lb : ByteArray → Bool) (A : Option Blk) (l : Value) (b : Bool) (rd rs1 rs2 csr imm : Int) (aq rl : Bool) : callK (ctx (fillΦ Nx Tl Em Ok Rn Rb Cn Cb Nn Nb Lt Ln Lb)) 20 0 41 [rp, .pointer (some ⟨1, 0, none⟩)] [A, some ⟨instC ⟨14, rd, rs1, rs2, csr, imm, aq, rl⟩, 24, none⟩, some ⟨[l, .bool b], 80, none⟩] vh = fillT2 Nx Tl Em Ok Rn Rb Cn Cb Nn Nb Lt Ln Lb A l b 14 rd rs1 rs2 csr imm aq rl := by kernel_rfl
theorem fill14 (Nx : Value → ByteArray) (Tl : Value → Value) (Em Ok : Value → Bool) (Rn : ByteArray → Int) (Rb : ByteArray → Bool) (Cn : ByteArray → Int) (Cb : ByteArray → Bool) (Nn : ByteArray → Int) (Nb : ByteArray → Bool) (Lt : ByteArray → ByteArray) (Ln : ByteArray → Int) (Lb : ByteArray → Bool) (A : Option Blk) (l : Value) (b : Bool) (rd rs1 rs2 csr imm : Int) (aq rl : Bool) : callK (ctx (fillΦ Nx Tl Em Ok Rn Rb Cn Cb Nn Nb Lt Ln Lb)) 20 0 41 [rp, .pointer (some ⟨1, 0, none⟩)] [A, some ⟨instC ⟨15, rd, rs1, rs2, csr, imm, aq, rl⟩, 24, none⟩, some ⟨[l, .bool b], 80, none⟩] vh = fillT2 Nx Tl Em Ok Rn Rb Cn Cb Nn Nb Lt Ln Lb A l b 15 rd rs1 rs2 csr imm aq rl := by kernel_rfl
theorem fill15 (Nx : Value → ByteArray) (Tl : Value → Value) (Em Ok : Value → Bool) (Rn : ByteArray → Int) (Rb : ByteArray → Bool) (Cn : ByteArray → Int) (Cb : ByteArray → Bool) (Nn : ByteArray → Int) (Nb : ByteArray → Bool) (Lt : ByteArray → ByteArray) (Ln : ByteArray → Int) (Lb : ByteArray → Bool) (A : Option Blk) (l : Value) (b : Bool) (rd rs1 rs2 csr imm : Int) (aq rl : Bool) : callK (ctx (fillΦ Nx Tl Em Ok Rn Rb Cn Cb Nn Nb Lt Ln Lb)) 20 0 41 [rp, .pointer (some ⟨1, 0, none⟩)] [A, some ⟨instC ⟨16, rd, rs1, rs2, csr, imm, aq, rl⟩, 24, none⟩, some ⟨[l, .bool b], 80, none⟩] vh = fillT4 Nx Tl Em Ok Rn Rb Cn Cb Nn Nb Lt Ln Lb A l b 16 rd rs1 rs2 csr imm aq rl := by kernel_rfl
theorem fill16 (Nx : Value → ByteArray) (Tl : Value → Value) (Em Ok : Value → Bool) (Rn : ByteArray → Int) (Rb : ByteArray → Bool) (Cn : ByteArray → Int) (Cb : ByteArray → Bool) (Nn : ByteArray → Int) (Nb : ByteArray → Bool) (Lt : ByteArray → ByteArray) (Ln : ByteArray → Int) (Lb : ByteArray → Bool) (A : Option Blk) (l : Value) (b : Bool) (rd rs1 rs2 csr imm : Int) (aq rl : Bool) : callK (ctx (fillΦ Nx Tl Em Ok Rn Rb Cn Cb Nn Nb Lt Ln Lb)) 20 0 41 [rp, .pointer (some ⟨1, 0, none⟩)] [A, some ⟨instC ⟨17, rd, rs1, rs2, csr, imm, aq, rl⟩, 24, none⟩, some ⟨[l, .bool b], 80, none⟩] vh = fillT4 Nx Tl Em Ok Rn Rb Cn Cb Nn Nb Lt Ln Lb A l b 17 rd rs1 rs2 csr imm aq rl := by kernel_rfl
theorem fill17 (Nx : Value → ByteArray) (Tl : Value → Value) (Em Ok : Value → Bool) (Rn : ByteArray → Int) (Rb : ByteArray → Bool) (Cn : ByteArray → Int) (Cb : ByteArray → Bool) (Nn : ByteArray → Int) (Nb : ByteArray → Bool) (Lt : ByteArray → ByteArray) (Ln : ByteArray → Int) (Lb : ByteArray → Bool) (A : Option Blk) (l : Value) (b : Bool) (rd rs1 rs2 csr imm : Int) (aq rl : Bool) : callK (ctx (fillΦ Nx Tl Em Ok Rn Rb Cn Cb Nn Nb Lt Ln Lb)) 20 0 41 [rp, .pointer (some ⟨1, 0, none⟩)] [A, some ⟨instC ⟨18, rd, rs1, rs2, csr, imm, aq, rl⟩, 24, none⟩, some ⟨[l, .bool b], 80, none⟩] vh = fillT4 Nx Tl Em Ok Rn Rb Cn Cb Nn Nb Lt Ln Lb A l b 18 rd rs1 rs2 csr imm aq rl := by kernel_rfl
theorem fill18 (Nx : Value → ByteArray) (Tl : Value → Value) (Em Ok : Value → Bool) (Rn : ByteArray → Int) (Rb : ByteArray → Bool) (Cn : ByteArray → Int) (Cb : ByteArray → Bool) (Nn : ByteArray → Int) (Nb : ByteArray → Bool) (Lt : ByteArray → ByteArray) (Ln : ByteArray → Int) (Lb : ByteArray → Bool) (A : Option Blk) (l : Value) (b : Bool) (rd rs1 rs2 csr imm : Int) (aq rl : Bool) : callK (ctx (fillΦ Nx Tl Em Ok Rn Rb Cn Cb Nn Nb Lt Ln Lb)) 20 0 41 [rp, .pointer (some ⟨1, 0, none⟩)] [A, some ⟨instC ⟨19, rd, rs1, rs2, csr, imm, aq, rl⟩, 24, none⟩, some ⟨[l, .bool b], 80, none⟩] vh = fillT5 Nx Tl Em Ok Rn Rb Cn Cb Nn Nb Lt Ln Lb A l b 19 rd rs1 rs2 csr imm aq rl := by kernel_rfl
theorem fill19 (Nx : Value → ByteArray) (Tl : Value → Value) (Em Ok : Value → Bool) (Rn : ByteArray → Int) (Rb : ByteArray → Bool) (Cn : ByteArray → Int) (Cb : ByteArray → Bool) (Nn : ByteArray → Int) (Nb : ByteArray → Bool) (Lt : ByteArray → ByteArray) (Ln : ByteArray → Int) (Lb : ByteArray → Bool) (A : Option Blk) (l : Value) (b : Bool) (rd rs1 rs2 csr imm : Int) (aq rl : Bool) : callK (ctx (fillΦ Nx Tl Em Ok Rn Rb Cn Cb Nn Nb Lt Ln Lb)) 20 0 41 [rp, .pointer (some ⟨1, 0, none⟩)] [A, some ⟨instC ⟨20, rd, rs1, rs2, csr, imm, aq, rl⟩, 24, none⟩, some ⟨[l, .bool b], 80, none⟩] vh = fillT5 Nx Tl Em Ok Rn Rb Cn Cb Nn Nb Lt Ln Lb A l b 20 rd rs1 rs2 csr imm aq rl := by kernel_rfl
theorem fill20 (Nx : Value → ByteArray) (Tl : Value → Value) (Em Ok : Value → Bool) (Rn : ByteArray → Int) (Rb : ByteArray → Bool) (Cn : ByteArray → Int) (Cb : ByteArray → Bool) (Nn : ByteArray → Int) (Nb : ByteArray → Bool) (Lt : ByteArray → ByteArray) (Ln : ByteArray → Int) (Lb : ByteArray → Bool) (A : Option Blk) (l : Value) (b : Bool) (rd rs1 rs2 csr imm : Int) (aq rl : Bool) : callK (ctx (fillΦ Nx Tl Em Ok Rn Rb Cn Cb Nn Nb Lt Ln Lb)) 20 0 41 [rp, .pointer (some ⟨1, 0, none⟩)] [A, some ⟨instC ⟨21, rd, rs1, rs2, csr, imm, aq, rl⟩, 24, none⟩, some ⟨[l, .bool b], 80, none⟩] vh = fillT5 Nx Tl Em Ok Rn Rb Cn Cb Nn Nb Lt Ln Lb A l b 21 rd rs1 rs2 csr imm aq rl := by kernel_rfl
theorem fill21 (Nx : Value → ByteArray) (Tl : Value → Value) (Em Ok : Value → Bool) (Rn : ByteArray → Int) (Rb : ByteArray → Bool) (Cn : ByteArray → Int) (Cb : ByteArray → Bool) (Nn : ByteArray → Int) (Nb : ByteArray → Bool) (Lt : ByteArray → ByteArray) (Ln : ByteArray → Int) (Lb : ByteArray → Bool) (A : Option Blk) (l : Value) (b : Bool) (rd rs1 rs2 csr imm : Int) (aq rl : Bool) : callK (ctx (fillΦ Nx Tl Em Ok Rn Rb Cn Cb Nn Nb Lt Ln Lb)) 20 0 41 [rp, .pointer (some ⟨1, 0, none⟩)] [A, some ⟨instC ⟨22, rd, rs1, rs2, csr, imm, aq, rl⟩, 24, none⟩, some ⟨[l, .bool b], 80, none⟩] vh = fillT5 Nx Tl Em Ok Rn Rb Cn Cb Nn Nb Lt Ln Lb A l b 22 rd rs1 rs2 csr imm aq rl := by kernel_rfl
theorem fill22 (Nx : Value → ByteArray) (Tl : Value → Value) (Em Ok : Value → Bool) (Rn : ByteArray → Int) (Rb : ByteArray → Bool) (Cn : ByteArray → Int) (Cb : ByteArray → Bool) (Nn : ByteArray → Int) (Nb : ByteArray → Bool) (Lt : ByteArray → ByteArray) (Ln : ByteArray → Int) (Lb : ByteArray → Bool) (A : Option Blk) (l : Value) (b : Bool) (rd rs1 rs2 csr imm : Int) (aq rl : Bool) : callK (ctx (fillΦ Nx Tl Em Ok Rn Rb Cn Cb Nn Nb Lt Ln Lb)) 20 0 41 [rp, .pointer (some ⟨1, 0, none⟩)] [A, some ⟨instC ⟨23, rd, rs1, rs2, csr, imm, aq, rl⟩, 24, none⟩, some ⟨[l, .bool b], 80, none⟩] vh = fillT5 Nx Tl Em Ok Rn Rb Cn Cb Nn Nb Lt Ln Lb A l b 23 rd rs1 rs2 csr imm aq rl := by kernel_rfl
theorem fill23 (Nx : Value → ByteArray) (Tl : Value → Value) (Em Ok : Value → Bool) (Rn : ByteArray → Int) (Rb : ByteArray → Bool) (Cn : ByteArray → Int) (Cb : ByteArray → Bool) (Nn : ByteArray → Int) (Nb : ByteArray → Bool) (Lt : ByteArray → ByteArray) (Ln : ByteArray → Int) (Lb : ByteArray → Bool) (A : Option Blk) (l : Value) (b : Bool) (rd rs1 rs2 csr imm : Int) (aq rl : Bool) : callK (ctx (fillΦ Nx Tl Em Ok Rn Rb Cn Cb Nn Nb Lt Ln Lb)) 20 0 41 [rp, .pointer (some ⟨1, 0, none⟩)] [A, some ⟨instC ⟨24, rd, rs1, rs2, csr, imm, aq, rl⟩, 24, none⟩, some ⟨[l, .bool b], 80, none⟩] vh = fillT5 Nx Tl Em Ok Rn Rb Cn Cb Nn Nb Lt Ln Lb A l b 24 rd rs1 rs2 csr imm aq rl := by kernel_rfl
theorem fill24 (Nx : Value → ByteArray) (Tl : Value → Value) (Em Ok : Value → Bool) (Rn : ByteArray → Int) (Rb : ByteArray → Bool) (Cn : ByteArray → Int) (Cb : ByteArray → Bool) (Nn : ByteArray → Int) (Nb : ByteArray → Bool) (Lt : ByteArray → ByteArray) (Ln : ByteArray → Int) (Lb : ByteArray → Bool) (A : Option Blk) (l : Value) (b : Bool) (rd rs1 rs2 csr imm : Int) (aq rl : Bool) : callK (ctx (fillΦ Nx Tl Em Ok Rn Rb Cn Cb Nn Nb Lt Ln Lb)) 20 0 41 [rp, .pointer (some ⟨1, 0, none⟩)] [A, some ⟨instC ⟨25, rd, rs1, rs2, csr, imm, aq, rl⟩, 24, none⟩, some ⟨[l, .bool b], 80, none⟩] vh = fillT6 Nx Tl Em Ok Rn Rb Cn Cb Nn Nb Lt Ln Lb A l b 25 rd rs1 rs2 csr imm aq rl := by kernel_rfl
theorem fill25 (Nx : Value → ByteArray) (Tl : Value → Value) (Em Ok : Value → Bool) (Rn : ByteArray → Int) (Rb : ByteArray → Bool) (Cn : ByteArray → Int) (Cb : ByteArray → Bool) (Nn : ByteArray → Int) (Nb : ByteArray → Bool) (Lt : ByteArray → ByteArray) (Ln : ByteArray → Int) (Lb : ByteArray → Bool) (A : Option Blk) (l : Value) (b : Bool) (rd rs1 rs2 csr imm : Int) (aq rl : Bool) : callK (ctx (fillΦ Nx Tl Em Ok Rn Rb Cn Cb Nn Nb Lt Ln Lb)) 20 0 41 [rp, .pointer (some ⟨1, 0, none⟩)] [A, some ⟨instC ⟨26, rd, rs1, rs2, csr, imm, aq, rl⟩, 24, none⟩, some ⟨[l, .bool b], 80, none⟩] vh = fillT6 Nx Tl Em Ok Rn Rb Cn Cb Nn Nb Lt Ln Lb A l b 26 rd rs1 rs2 csr imm aq rl := by kernel_rfl
theorem fill26 (Nx : Value → ByteArray) (Tl : Value → Value) (Em Ok : Value → Bool) (Rn : ByteArray → Int) (Rb : ByteArray → Bool) (Cn : ByteArray → Int) (Cb : ByteArray → Bool) (Nn : ByteArray → Int) (Nb : ByteArray → Bool) (Lt : ByteArray → ByteArray) (Ln : ByteArray → Int) (Lb : ByteArray → Bool) (A : Option Blk) (l : Value) (b : Bool) (rd rs1 rs2 csr imm : Int) (aq rl : Bool) : callK (ctx (fillΦ Nx Tl Em Ok Rn Rb Cn Cb Nn Nb Lt Ln Lb)) 20 0 41 [rp, .pointer (some ⟨1, 0, none⟩)] [A, some ⟨instC ⟨27, rd, rs1, rs2, csr, imm, aq, rl⟩, 24, none⟩, some ⟨[l, .bool b], 80, none⟩] vh = fillT6 Nx Tl Em Ok Rn Rb Cn Cb Nn Nb Lt Ln Lb A l b 27 rd rs1 rs2 csr imm aq rl := by kernel_rfl
theorem fill27 (Nx : Value → ByteArray) (Tl : Value → Value) (Em Ok : Value → Bool) (Rn : ByteArray → Int) (Rb : ByteArray → Bool) (Cn : ByteArray → Int) (Cb : ByteArray → Bool) (Nn : ByteArray → Int) (Nb : ByteArray → Bool) (Lt : ByteArray → ByteArray) (Ln : ByteArray → Int) (Lb : ByteArray → Bool) (A : Option Blk) (l : Value) (b : Bool) (rd rs1 rs2 csr imm : Int) (aq rl : Bool) : callK (ctx (fillΦ Nx Tl Em Ok Rn Rb Cn Cb Nn Nb Lt Ln Lb)) 20 0 41 [rp, .pointer (some ⟨1, 0, none⟩)] [A, some ⟨instC ⟨28, rd, rs1, rs2, csr, imm, aq, rl⟩, 24, none⟩, some ⟨[l, .bool b], 80, none⟩] vh = fillT7 Nx Tl Em Ok Rn Rb Cn Cb Nn Nb Lt Ln Lb A l b 28 rd rs1 rs2 csr imm aq rl := by kernel_rfl
theorem fill28 (Nx : Value → ByteArray) (Tl : Value → Value) (Em Ok : Value → Bool) (Rn : ByteArray → Int) (Rb : ByteArray → Bool) (Cn : ByteArray → Int) (Cb : ByteArray → Bool) (Nn : ByteArray → Int) (Nb : ByteArray → Bool) (Lt : ByteArray → ByteArray) (Ln : ByteArray → Int) (Lb : ByteArray → Bool) (A : Option Blk) (l : Value) (b : Bool) (rd rs1 rs2 csr imm : Int) (aq rl : Bool) : callK (ctx (fillΦ Nx Tl Em Ok Rn Rb Cn Cb Nn Nb Lt Ln Lb)) 20 0 41 [rp, .pointer (some ⟨1, 0, none⟩)] [A, some ⟨instC ⟨29, rd, rs1, rs2, csr, imm, aq, rl⟩, 24, none⟩, some ⟨[l, .bool b], 80, none⟩] vh = fillT7 Nx Tl Em Ok Rn Rb Cn Cb Nn Nb Lt Ln Lb A l b 29 rd rs1 rs2 csr imm aq rl := by kernel_rfl
theorem fill29 (Nx : Value → ByteArray) (Tl : Value → Value) (Em Ok : Value → Bool) (Rn : ByteArray → Int) (Rb : ByteArray → Bool) (Cn : ByteArray → Int) (Cb : ByteArray → Bool) (Nn : ByteArray → Int) (Nb : ByteArray → Bool) (Lt : ByteArray → ByteArray) (Ln : ByteArray → Int) (Lb : ByteArray → Bool) (A : Option Blk) (l : Value) (b : Bool) (rd rs1 rs2 csr imm : Int) (aq rl : Bool) : callK (ctx (fillΦ Nx Tl Em Ok Rn Rb Cn Cb Nn Nb Lt Ln Lb)) 20 0 41 [rp, .pointer (some ⟨1, 0, none⟩)] [A, some ⟨instC ⟨30, rd, rs1, rs2, csr, imm, aq, rl⟩, 24, none⟩, some ⟨[l, .bool b], 80, none⟩] vh = fillT7 Nx Tl Em Ok Rn Rb Cn Cb Nn Nb Lt Ln Lb A l b 30 rd rs1 rs2 csr imm aq rl := by kernel_rfl
theorem fill30 (Nx : Value → ByteArray) (Tl : Value → Value) (Em Ok : Value → Bool) (Rn : ByteArray → Int) (Rb : ByteArray → Bool) (Cn : ByteArray → Int) (Cb : ByteArray → Bool) (Nn : ByteArray → Int) (Nb : ByteArray → Bool) (Lt : ByteArray → ByteArray) (Ln : ByteArray → Int) (Lb : ByteArray → Bool) (A : Option Blk) (l : Value) (b : Bool) (rd rs1 rs2 csr imm : Int) (aq rl : Bool) : callK (ctx (fillΦ Nx Tl Em Ok Rn Rb Cn Cb Nn Nb Lt Ln Lb)) 20 0 41 [rp, .pointer (some ⟨1, 0, none⟩)] [A, some ⟨instC ⟨31, rd, rs1, rs2, csr, imm, aq, rl⟩, 24, none⟩, some ⟨[l, .bool b], 80, none⟩] vh = fillT7 Nx Tl Em Ok Rn Rb Cn Cb Nn Nb Lt Ln Lb A l b 31 rd rs1 rs2 csr imm aq rl := by kernel_rfl
theorem fill31 (Nx : Value → ByteArray) (Tl : Value → Value) (Em Ok : Value → Bool) (Rn : ByteArray → Int) (Rb : ByteArray → Bool) (Cn : ByteArray → Int) (Cb : ByteArray → Bool) (Nn : ByteArray → Int) (Nb : ByteArray → Bool) (Lt : ByteArray → ByteArray) (Ln : ByteArray → Int) (Lb : ByteArray → Bool) (A : Option Blk) (l : Value) (b : Bool) (rd rs1 rs2 csr imm : Int) (aq rl : Bool) : callK (ctx (fillΦ Nx Tl Em Ok Rn Rb Cn Cb Nn Nb Lt Ln Lb)) 20 0 41 [rp, .pointer (some ⟨1, 0, none⟩)] [A, some ⟨instC ⟨32, rd, rs1, rs2, csr, imm, aq, rl⟩, 24, none⟩, some ⟨[l, .bool b], 80, none⟩] vh = fillT7 Nx Tl Em Ok Rn Rb Cn Cb Nn Nb Lt Ln Lb A l b 32 rd rs1 rs2 csr imm aq rl := by kernel_rfl
theorem fill32 (Nx : Value → ByteArray) (Tl : Value → Value) (Em Ok : Value → Bool) (Rn : ByteArray → Int) (Rb : ByteArray → Bool) (Cn : ByteArray → Int) (Cb : ByteArray → Bool) (Nn : ByteArray → Int) (Nb : ByteArray → Bool) (Lt : ByteArray → ByteArray) (Ln : ByteArray → Int) (Lb : ByteArray → Bool) (A : Option Blk) (l : Value) (b : Bool) (rd rs1 rs2 csr imm : Int) (aq rl : Bool) : callK (ctx (fillΦ Nx Tl Em Ok Rn Rb Cn Cb Nn Nb Lt Ln Lb)) 20 0 41 [rp, .pointer (some ⟨1, 0, none⟩)] [A, some ⟨instC ⟨33, rd, rs1, rs2, csr, imm, aq, rl⟩, 24, none⟩, some ⟨[l, .bool b], 80, none⟩] vh = fillT7 Nx Tl Em Ok Rn Rb Cn Cb Nn Nb Lt Ln Lb A l b 33 rd rs1 rs2 csr imm aq rl := by kernel_rfl
theorem fill33 (Nx : Value → ByteArray) (Tl : Value → Value) (Em Ok : Value → Bool) (Rn : ByteArray → Int) (Rb : ByteArray → Bool) (Cn : ByteArray → Int) (Cb : ByteArray → Bool) (Nn : ByteArray → Int) (Nb : ByteArray → Bool) (Lt : ByteArray → ByteArray) (Ln : ByteArray → Int) (Lb : ByteArray → Bool) (A : Option Blk) (l : Value) (b : Bool) (rd rs1 rs2 csr imm : Int) (aq rl : Bool) : callK (ctx (fillΦ Nx Tl Em Ok Rn Rb Cn Cb Nn Nb Lt Ln Lb)) 20 0 41 [rp, .pointer (some ⟨1, 0, none⟩)] [A, some ⟨instC ⟨34, rd, rs1, rs2, csr, imm, aq, rl⟩, 24, none⟩, some ⟨[l, .bool b], 80, none⟩] vh = fillT7 Nx Tl Em Ok Rn Rb Cn Cb Nn Nb Lt Ln Lb A l b 34 rd rs1 rs2 csr imm aq rl := by kernel_rfl
theorem fill34 (Nx : Value → ByteArray) (Tl : Value → Value) (Em Ok : Value → Bool) (Rn : ByteArray → Int) (Rb : ByteArray → Bool) (Cn : ByteArray → Int) (Cb : ByteArray → Bool) (Nn : ByteArray → Int) (Nb : ByteArray → Bool) (Lt : ByteArray → ByteArray) (Ln : ByteArray → Int) (Lb : ByteArray → Bool) (A : Option Blk) (l : Value) (b : Bool) (rd rs1 rs2 csr imm : Int) (aq rl : Bool) : callK (ctx (fillΦ Nx Tl Em Ok Rn Rb Cn Cb Nn Nb Lt Ln Lb)) 20 0 41 [rp, .pointer (some ⟨1, 0, none⟩)] [A, some ⟨instC ⟨35, rd, rs1, rs2, csr, imm, aq, rl⟩, 24, none⟩, some ⟨[l, .bool b], 80, none⟩] vh = fillT7 Nx Tl Em Ok Rn Rb Cn Cb Nn Nb Lt Ln Lb A l b 35 rd rs1 rs2 csr imm aq rl := by kernel_rfl
theorem fill35 (Nx : Value → ByteArray) (Tl : Value → Value) (Em Ok : Value → Bool) (Rn : ByteArray → Int) (Rb : ByteArray → Bool) (Cn : ByteArray → Int) (Cb : ByteArray → Bool) (Nn : ByteArray → Int) (Nb : ByteArray → Bool) (Lt : ByteArray → ByteArray) (Ln : ByteArray → Int) (Lb : ByteArray → Bool) (A : Option Blk) (l : Value) (b : Bool) (rd rs1 rs2 csr imm : Int) (aq rl : Bool) : callK (ctx (fillΦ Nx Tl Em Ok Rn Rb Cn Cb Nn Nb Lt Ln Lb)) 20 0 41 [rp, .pointer (some ⟨1, 0, none⟩)] [A, some ⟨instC ⟨36, rd, rs1, rs2, csr, imm, aq, rl⟩, 24, none⟩, some ⟨[l, .bool b], 80, none⟩] vh = fillT7 Nx Tl Em Ok Rn Rb Cn Cb Nn Nb Lt Ln Lb A l b 36 rd rs1 rs2 csr imm aq rl := by kernel_rfl
theorem fill36 (Nx : Value → ByteArray) (Tl : Value → Value) (Em Ok : Value → Bool) (Rn : ByteArray → Int) (Rb : ByteArray → Bool) (Cn : ByteArray → Int) (Cb : ByteArray → Bool) (Nn : ByteArray → Int) (Nb : ByteArray → Bool) (Lt : ByteArray → ByteArray) (Ln : ByteArray → Int) (Lb : ByteArray → Bool) (A : Option Blk) (l : Value) (b : Bool) (rd rs1 rs2 csr imm : Int) (aq rl : Bool) : callK (ctx (fillΦ Nx Tl Em Ok Rn Rb Cn Cb Nn Nb Lt Ln Lb)) 20 0 41 [rp, .pointer (some ⟨1, 0, none⟩)] [A, some ⟨instC ⟨37, rd, rs1, rs2, csr, imm, aq, rl⟩, 24, none⟩, some ⟨[l, .bool b], 80, none⟩] vh = fillT7 Nx Tl Em Ok Rn Rb Cn Cb Nn Nb Lt Ln Lb A l b 37 rd rs1 rs2 csr imm aq rl := by kernel_rfl
theorem fill37 (Nx : Value → ByteArray) (Tl : Value → Value) (Em Ok : Value → Bool) (Rn : ByteArray → Int) (Rb : ByteArray → Bool) (Cn : ByteArray → Int) (Cb : ByteArray → Bool) (Nn : ByteArray → Int) (Nb : ByteArray → Bool) (Lt : ByteArray → ByteArray) (Ln : ByteArray → Int) (Lb : ByteArray → Bool) (A : Option Blk) (l : Value) (b : Bool) (rd rs1 rs2 csr imm : Int) (aq rl : Bool) : callK (ctx (fillΦ Nx Tl Em Ok Rn Rb Cn Cb Nn Nb Lt Ln Lb)) 20 0 41 [rp, .pointer (some ⟨1, 0, none⟩)] [A, some ⟨instC ⟨38, rd, rs1, rs2, csr, imm, aq, rl⟩, 24, none⟩, some ⟨[l, .bool b], 80, none⟩] vh = fillT8 Nx Tl Em Ok Rn Rb Cn Cb Nn Nb Lt Ln Lb A l b 38 rd rs1 rs2 csr imm aq rl := by kernel_rfl
theorem fill38 (Nx : Value → ByteArray) (Tl : Value → Value) (Em Ok : Value → Bool) (Rn : ByteArray → Int) (Rb : ByteArray → Bool) (Cn : ByteArray → Int) (Cb : ByteArray → Bool) (Nn : ByteArray → Int) (Nb : ByteArray → Bool) (Lt : ByteArray → ByteArray) (Ln : ByteArray → Int) (Lb : ByteArray → Bool) (A : Option Blk) (l : Value) (b : Bool) (rd rs1 rs2 csr imm : Int) (aq rl : Bool) : callK (ctx (fillΦ Nx Tl Em Ok Rn Rb Cn Cb Nn Nb Lt Ln Lb)) 20 0 41 [rp, .pointer (some ⟨1, 0, none⟩)] [A, some ⟨instC ⟨39, rd, rs1, rs2, csr, imm, aq, rl⟩, 24, none⟩, some ⟨[l, .bool b], 80, none⟩] vh = fillT9 Nx Tl Em Ok Rn Rb Cn Cb Nn Nb Lt Ln Lb A l b 39 rd rs1 rs2 csr imm aq rl := by kernel_rfl
theorem fill39 (Nx : Value → ByteArray) (Tl : Value → Value) (Em Ok : Value → Bool) (Rn : ByteArray → Int) (Rb : ByteArray → Bool) (Cn : ByteArray → Int) (Cb : ByteArray → Bool) (Nn : ByteArray → Int) (Nb : ByteArray → Bool) (Lt : ByteArray → ByteArray) (Ln : ByteArray → Int) (Lb : ByteArray → Bool) (A : Option Blk) (l : Value) (b : Bool) (rd rs1 rs2 csr imm : Int) (aq rl : Bool) : callK (ctx (fillΦ Nx Tl Em Ok Rn Rb Cn Cb Nn Nb Lt Ln Lb)) 20 0 41 [rp, .pointer (some ⟨1, 0, none⟩)] [A, some ⟨instC ⟨40, rd, rs1, rs2, csr, imm, aq, rl⟩, 24, none⟩, some ⟨[l, .bool b], 80, none⟩] vh = fillT9 Nx Tl Em Ok Rn Rb Cn Cb Nn Nb Lt Ln Lb A l b 40 rd rs1 rs2 csr imm aq rl := by kernel_rfl
theorem fill40 (Nx : Value → ByteArray) (Tl : Value → Value) (Em Ok : Value → Bool) (Rn : ByteArray → Int) (Rb : ByteArray → Bool) (Cn : ByteArray → Int) (Cb : ByteArray → Bool) (Nn : ByteArray → Int) (Nb : ByteArray → Bool) (Lt : ByteArray → ByteArray) (Ln : ByteArray → Int) (Lb : ByteArray → Bool) (A : Option Blk) (l : Value) (b : Bool) (rd rs1 rs2 csr imm : Int) (aq rl : Bool) : callK (ctx (fillΦ Nx Tl Em Ok Rn Rb Cn Cb Nn Nb Lt Ln Lb)) 20 0 41 [rp, .pointer (some ⟨1, 0, none⟩)] [A, some ⟨instC ⟨41, rd, rs1, rs2, csr, imm, aq, rl⟩, 24, none⟩, some ⟨[l, .bool b], 80, none⟩] vh = fillT9 Nx Tl Em Ok Rn Rb Cn Cb Nn Nb Lt Ln Lb A l b 41 rd rs1 rs2 csr imm aq rl := by kernel_rfl
theorem fill41 (Nx : Value → ByteArray) (Tl : Value → Value) (Em Ok : Value → Bool) (Rn : ByteArray → Int) (Rb : ByteArray → Bool) (Cn : ByteArray → Int) (Cb : ByteArray → Bool) (Nn : ByteArray → Int) (Nb : ByteArray → Bool) (Lt : ByteArray → ByteArray) (Ln : ByteArray → Int) (Lb : ByteArray → Bool) (A : Option Blk) (l : Value) (b : Bool) (rd rs1 rs2 csr imm : Int) (aq rl : Bool) : callK (ctx (fillΦ Nx Tl Em Ok Rn Rb Cn Cb Nn Nb Lt Ln Lb)) 20 0 41 [rp, .pointer (some ⟨1, 0, none⟩)] [A, some ⟨instC ⟨42, rd, rs1, rs2, csr, imm, aq, rl⟩, 24, none⟩, some ⟨[l, .bool b], 80, none⟩] vh = fillT9 Nx Tl Em Ok Rn Rb Cn Cb Nn Nb Lt Ln Lb A l b 42 rd rs1 rs2 csr imm aq rl := by kernel_rfl
theorem fill42 (Nx : Value → ByteArray) (Tl : Value → Value) (Em Ok : Value → Bool) (Rn : ByteArray → Int) (Rb : ByteArray → Bool) (Cn : ByteArray → Int) (Cb : ByteArray → Bool) (Nn : ByteArray → Int) (Nb : ByteArray → Bool) (Lt : ByteArray → ByteArray) (Ln : ByteArray → Int) (Lb : ByteArray → Bool) (A : Option Blk) (l : Value) (b : Bool) (rd rs1 rs2 csr imm : Int) (aq rl : Bool) : callK (ctx (fillΦ Nx Tl Em Ok Rn Rb Cn Cb Nn Nb Lt Ln Lb)) 20 0 41 [rp, .pointer (some ⟨1, 0, none⟩)] [A, some ⟨instC ⟨43, rd, rs1, rs2, csr, imm, aq, rl⟩, 24, none⟩, some ⟨[l, .bool b], 80, none⟩] vh = fillT9 Nx Tl Em Ok Rn Rb Cn Cb Nn Nb Lt Ln Lb A l b 43 rd rs1 rs2 csr imm aq rl := by kernel_rfl
theorem fill43 (Nx : Value → ByteArray) (Tl : Value → Value) (Em Ok : Value → Bool) (Rn : ByteArray → Int) (Rb : ByteArray → Bool) (Cn : ByteArray → Int) (Cb : ByteArray → Bool) (Nn : ByteArray → Int) (Nb : ByteArray → Bool) (Lt : ByteArray → ByteArray) (Ln : ByteArray → Int) (Lb : ByteArray → Bool) (A : Option Blk) (l : Value) (b : Bool) (rd rs1 rs2 csr imm : Int) (aq rl : Bool) : callK (ctx (fillΦ Nx Tl Em Ok Rn Rb Cn Cb Nn Nb Lt Ln Lb)) 20 0 41 [rp, .pointer (some ⟨1, 0, none⟩)] [A, some ⟨instC ⟨44, rd, rs1, rs2, csr, imm, aq, rl⟩, 24, none⟩, some ⟨[l, .bool b], 80, none⟩] vh = fillT10 Nx Tl Em Ok Rn Rb Cn Cb Nn Nb Lt Ln Lb A l b 44 rd rs1 rs2 csr imm aq rl := by kernel_rfl
theorem fill44 (Nx : Value → ByteArray) (Tl : Value → Value) (Em Ok : Value → Bool) (Rn : ByteArray → Int) (Rb : ByteArray → Bool) (Cn : ByteArray → Int) (Cb : ByteArray → Bool) (Nn : ByteArray → Int) (Nb : ByteArray → Bool) (Lt : ByteArray → ByteArray) (Ln : ByteArray → Int) (Lb : ByteArray → Bool) (A : Option Blk) (l : Value) (b : Bool) (rd rs1 rs2 csr imm : Int) (aq rl : Bool) : callK (ctx (fillΦ Nx Tl Em Ok Rn Rb Cn Cb Nn Nb Lt Ln Lb)) 20 0 41 [rp, .pointer (some ⟨1, 0, none⟩)] [A, some ⟨instC ⟨45, rd, rs1, rs2, csr, imm, aq, rl⟩, 24, none⟩, some ⟨[l, .bool b], 80, none⟩] vh = fillT11 Nx Tl Em Ok Rn Rb Cn Cb Nn Nb Lt Ln Lb A l b 45 rd rs1 rs2 csr imm aq rl := by kernel_rfl
theorem fill45 (Nx : Value → ByteArray) (Tl : Value → Value) (Em Ok : Value → Bool) (Rn : ByteArray → Int) (Rb : ByteArray → Bool) (Cn : ByteArray → Int) (Cb : ByteArray → Bool) (Nn : ByteArray → Int) (Nb : ByteArray → Bool) (Lt : ByteArray → ByteArray) (Ln : ByteArray → Int) (Lb : ByteArray → Bool) (A : Option Blk) (l : Value) (b : Bool) (rd rs1 rs2 csr imm : Int) (aq rl : Bool) : callK (ctx (fillΦ Nx Tl Em Ok Rn Rb Cn Cb Nn Nb Lt Ln Lb)) 20 0 41 [rp, .pointer (some ⟨1, 0, none⟩)] [A, some ⟨instC ⟨46, rd, rs1, rs2, csr, imm, aq, rl⟩, 24, none⟩, some ⟨[l, .bool b], 80, none⟩] vh = fillT11 Nx Tl Em Ok Rn Rb Cn Cb Nn Nb Lt Ln Lb A l b 46 rd rs1 rs2 csr imm aq rl := by kernel_rfl
theorem fill46 (Nx : Value → ByteArray) (Tl : Value → Value) (Em Ok : Value → Bool) (Rn : ByteArray → Int) (Rb : ByteArray → Bool) (Cn : ByteArray → Int) (Cb : ByteArray → Bool) (Nn : ByteArray → Int) (Nb : ByteArray → Bool) (Lt : ByteArray → ByteArray) (Ln : ByteArray → Int) (Lb : ByteArray → Bool) (A : Option Blk) (l : Value) (b : Bool) (rd rs1 rs2 csr imm : Int) (aq rl : Bool) : callK (ctx (fillΦ Nx Tl Em Ok Rn Rb Cn Cb Nn Nb Lt Ln Lb)) 20 0 41 [rp, .pointer (some ⟨1, 0, none⟩)] [A, some ⟨instC ⟨47, rd, rs1, rs2, csr, imm, aq, rl⟩, 24, none⟩, some ⟨[l, .bool b], 80, none⟩] vh = fillT11 Nx Tl Em Ok Rn Rb Cn Cb Nn Nb Lt Ln Lb A l b 47 rd rs1 rs2 csr imm aq rl := by kernel_rfl
theorem fill47 (Nx : Value → ByteArray) (Tl : Value → Value) (Em Ok : Value → Bool) (Rn : ByteArray → Int) (Rb : ByteArray → Bool) (Cn : ByteArray → Int) (Cb : ByteArray → Bool) (Nn : ByteArray → Int) (Nb : ByteArray → Bool) (Lt : ByteArray → ByteArray) (Ln : ByteArray → Int) (Lb : ByteArray → Bool) (A : Option Blk) (l : Value) (b : Bool) (rd rs1 rs2 csr imm : Int) (aq rl : Bool) : callK (ctx (fillΦ Nx Tl Em Ok Rn Rb Cn Cb Nn Nb Lt Ln Lb)) 20 0 41 [rp, .pointer (some ⟨1, 0, none⟩)] [A, some ⟨instC ⟨48, rd, rs1, rs2, csr, imm, aq, rl⟩, 24, none⟩, some ⟨[l, .bool b], 80, none⟩] vh = fillT12 Nx Tl Em Ok Rn Rb Cn Cb Nn Nb Lt Ln Lb A l b 48 rd rs1 rs2 csr imm aq rl := by kernel_rfl
theorem fill48 (Nx : Value → ByteArray) (Tl : Value → Value) (Em Ok : Value → Bool) (Rn : ByteArray → Int) (Rb : ByteArray → Bool) (Cn : ByteArray → Int) (Cb : ByteArray → Bool) (Nn : ByteArray → Int) (Nb : ByteArray → Bool) (Lt : ByteArray → ByteArray) (Ln : ByteArray → Int) (Lb : ByteArray → Bool) (A : Option Blk) (l : Value) (b : Bool) (rd rs1 rs2 csr imm : Int) (aq rl : Bool) : callK (ctx (fillΦ Nx Tl Em Ok Rn Rb Cn Cb Nn Nb Lt Ln Lb)) 20 0 41 [rp, .pointer (some ⟨1, 0, none⟩)] [A, some ⟨instC ⟨49, rd, rs1, rs2, csr, imm, aq, rl⟩, 24, none⟩, some ⟨[l, .bool b], 80, none⟩] vh = fillT12 Nx Tl Em Ok Rn Rb Cn Cb Nn Nb Lt Ln Lb A l b 49 rd rs1 rs2 csr imm aq rl := by kernel_rfl
theorem fill49 (Nx : Value → ByteArray) (Tl : Value → Value) (Em Ok : Value → Bool) (Rn : ByteArray → Int) (Rb : ByteArray → Bool) (Cn : ByteArray → Int) (Cb : ByteArray → Bool) (Nn : ByteArray → Int) (Nb : ByteArray → Bool) (Lt : ByteArray → ByteArray) (Ln : ByteArray → Int) (Lb : ByteArray → Bool) (A : Option Blk) (l : Value) (b : Bool) (rd rs1 rs2 csr imm : Int) (aq rl : Bool) : callK (ctx (fillΦ Nx Tl Em Ok Rn Rb Cn Cb Nn Nb Lt Ln Lb)) 20 0 41 [rp, .pointer (some ⟨1, 0, none⟩)] [A, some ⟨instC ⟨50, rd, rs1, rs2, csr, imm, aq, rl⟩, 24, none⟩, some ⟨[l, .bool b], 80, none⟩] vh = fillT12 Nx Tl Em Ok Rn Rb Cn Cb Nn Nb Lt Ln Lb A l b 50 rd rs1 rs2 csr imm aq rl := by kernel_rfl
theorem fill50 (Nx : Value → ByteArray) (Tl : Value → Value) (Em Ok : Value → Bool) (Rn : ByteArray → Int) (Rb : ByteArray → Bool) (Cn : ByteArray → Int) (Cb : ByteArray → Bool) (Nn : ByteArray → Int) (Nb : ByteArray → Bool) (Lt : ByteArray → ByteArray) (Ln : ByteArray → Int) (Lb : ByteArray → Bool) (A : Option Blk) (l : Value) (b : Bool) (rd rs1 rs2 csr imm : Int) (aq rl : Bool) : callK (ctx (fillΦ Nx Tl Em Ok Rn Rb Cn Cb Nn Nb Lt Ln Lb)) 20 0 41 [rp, .pointer (some ⟨1, 0, none⟩)] [A, some ⟨instC ⟨51, rd, rs1, rs2, csr, imm, aq, rl⟩, 24, none⟩, some ⟨[l, .bool b], 80, none⟩] vh = fillT7 Nx Tl Em Ok Rn Rb Cn Cb Nn Nb Lt Ln Lb A l b 51 rd rs1 rs2 csr imm aq rl := by kernel_rfl
theorem fill51 (Nx : Value → ByteArray) (Tl : Value → Value) (Em Ok : Value → Bool) (Rn : ByteArray → Int) (Rb : ByteArray → Bool) (Cn : ByteArray → Int) (Cb : ByteArray → Bool) (Nn : ByteArray → Int) (Nb : ByteArray → Bool) (Lt : ByteArray → ByteArray) (Ln : ByteArray → Int) (Lb : ByteArray → Bool) (A : Option Blk) (l : Value) (b : Bool) (rd rs1 rs2 csr imm : Int) (aq rl : Bool) : callK (ctx (fillΦ Nx Tl Em Ok Rn Rb Cn Cb Nn Nb Lt Ln Lb)) 20 0 41 [rp, .pointer (some ⟨1, 0, none⟩)] [A, some ⟨instC ⟨52, rd, rs1, rs2, csr, imm, aq, rl⟩, 24, none⟩, some ⟨[l, .bool b], 80, none⟩] vh = fillT7 Nx Tl Em Ok Rn Rb Cn Cb Nn Nb Lt Ln Lb A l b 52 rd rs1 rs2 csr imm aq rl := by kernel_rfl
theorem fill52 (Nx : Value → ByteArray) (Tl : Value → Value) (Em Ok : Value → Bool) (Rn : ByteArray → Int) (Rb : ByteArray → Bool) (Cn : ByteArray → Int) (Cb : ByteArray → Bool) (Nn : ByteArray → Int) (Nb : ByteArray → Bool) (Lt : ByteArray → ByteArray) (Ln : ByteArray → Int) (Lb : ByteArray → Bool) (A : Option Blk) (l : Value) (b : Bool) (rd rs1 rs2 csr imm : Int) (aq rl : Bool) : callK (ctx (fillΦ Nx Tl Em Ok Rn Rb Cn Cb Nn Nb Lt Ln Lb)) 20 0 41 [rp, .pointer (some ⟨1, 0, none⟩)] [A, some ⟨instC ⟨53, rd, rs1, rs2, csr, imm, aq, rl⟩, 24, none⟩, some ⟨[l, .bool b], 80, none⟩] vh = fillT7 Nx Tl Em Ok Rn Rb Cn Cb Nn Nb Lt Ln Lb A l b 53 rd rs1 rs2 csr imm aq rl := by kernel_rfl
theorem fill53 (Nx : Value → ByteArray) (Tl : Value → Value) (Em Ok : Value → Bool) (Rn : ByteArray → Int) (Rb : ByteArray → Bool) (Cn : ByteArray → Int) (Cb : ByteArray → Bool) (Nn : ByteArray → Int) (Nb : ByteArray → Bool) (Lt : ByteArray → ByteArray) (Ln : ByteArray → Int) (Lb : ByteArray → Bool) (A : Option Blk) (l : Value) (b : Bool) (rd rs1 rs2 csr imm : Int) (aq rl : Bool) : callK (ctx (fillΦ Nx Tl Em Ok Rn Rb Cn Cb Nn Nb Lt Ln Lb)) 20 0 41 [rp, .pointer (some ⟨1, 0, none⟩)] [A, some ⟨instC ⟨54, rd, rs1, rs2, csr, imm, aq, rl⟩, 24, none⟩, some ⟨[l, .bool b], 80, none⟩] vh = fillT7 Nx Tl Em Ok Rn Rb Cn Cb Nn Nb Lt Ln Lb A l b 54 rd rs1 rs2 csr imm aq rl := by kernel_rfl
theorem fill54 (Nx : Value → ByteArray) (Tl : Value → Value) (Em Ok : Value → Bool) (Rn : ByteArray → Int) (Rb : ByteArray → Bool) (Cn : ByteArray → Int) (Cb : ByteArray → Bool) (Nn : ByteArray → Int) (Nb : ByteArray → Bool) (Lt : ByteArray → ByteArray) (Ln : ByteArray → Int) (Lb : ByteArray → Bool) (A : Option Blk) (l : Value) (b : Bool) (rd rs1 rs2 csr imm : Int) (aq rl : Bool) : callK (ctx (fillΦ Nx Tl Em Ok Rn Rb Cn Cb Nn Nb Lt Ln Lb)) 20 0 41 [rp, .pointer (some ⟨1, 0, none⟩)] [A, some ⟨instC ⟨55, rd, rs1, rs2, csr, imm, aq, rl⟩, 24, none⟩, some ⟨[l, .bool b], 80, none⟩] vh = fillT7 Nx Tl Em Ok Rn Rb Cn Cb Nn Nb Lt Ln Lb A l b 55 rd rs1 rs2 csr imm aq rl := by kernel_rfl
theorem fill55 (Nx : Value → ByteArray) (Tl : Value → Value) (Em Ok : Value → Bool) (Rn : ByteArray → Int) (Rb : ByteArray → Bool) (Cn : ByteArray → Int) (Cb : ByteArray → Bool) (Nn : ByteArray → Int) (Nb : ByteArray → Bool) (Lt : ByteArray → ByteArray) (Ln : ByteArray → Int) (Lb : ByteArray → Bool) (A : Option Blk) (l : Value) (b : Bool) (rd rs1 rs2 csr imm : Int) (aq rl : Bool) : callK (ctx (fillΦ Nx Tl Em Ok Rn Rb Cn Cb Nn Nb Lt Ln Lb)) 20 0 41 [rp, .pointer (some ⟨1, 0, none⟩)] [A, some ⟨instC ⟨56, rd, rs1, rs2, csr, imm, aq, rl⟩, 24, none⟩, some ⟨[l, .bool b], 80, none⟩] vh = fillT7 Nx Tl Em Ok Rn Rb Cn Cb Nn Nb Lt Ln Lb A l b 56 rd rs1 rs2 csr imm aq rl := by kernel_rfl
theorem fill56 (Nx : Value → ByteArray) (Tl : Value → Value) (Em Ok : Value → Bool) (Rn : ByteArray → Int) (Rb : ByteArray → Bool) (Cn : ByteArray → Int) (Cb : ByteArray → Bool) (Nn : ByteArray → Int) (Nb : ByteArray → Bool) (Lt : ByteArray → ByteArray) (Ln : ByteArray → Int) (Lb : ByteArray → Bool) (A : Option Blk) (l : Value) (b : Bool) (rd rs1 rs2 csr imm : Int) (aq rl : Bool) : callK (ctx (fillΦ Nx Tl Em Ok Rn Rb Cn Cb Nn Nb Lt Ln Lb)) 20 0 41 [rp, .pointer (some ⟨1, 0, none⟩)] [A, some ⟨instC ⟨57, rd, rs1, rs2, csr, imm, aq, rl⟩, 24, none⟩, some ⟨[l, .bool b], 80, none⟩] vh = fillT7 Nx Tl Em Ok Rn Rb Cn Cb Nn Nb Lt Ln Lb A l b 57 rd rs1 rs2 csr imm aq rl := by kernel_rfl
theorem fill57 (Nx : Value → ByteArray) (Tl : Value → Value) (Em Ok : Value → Bool) (Rn : ByteArray → Int) (Rb : ByteArray → Bool) (Cn : ByteArray → Int) (Cb : ByteArray → Bool) (Nn : ByteArray → Int) (Nb : ByteArray → Bool) (Lt : ByteArray → ByteArray) (Ln : ByteArray → Int) (Lb : ByteArray → Bool) (A : Option Blk) (l : Value) (b : Bool) (rd rs1 rs2 csr imm : Int) (aq rl : Bool) : callK (ctx (fillΦ Nx Tl Em Ok Rn Rb Cn Cb Nn Nb Lt Ln Lb)) 20 0 41 [rp, .pointer (some ⟨1, 0, none⟩)] [A, some ⟨instC ⟨58, rd, rs1, rs2, csr, imm, aq, rl⟩, 24, none⟩, some ⟨[l, .bool b], 80, none⟩] vh = fillT7 Nx Tl Em Ok Rn Rb Cn Cb Nn Nb Lt Ln Lb A l b 58 rd rs1 rs2 csr imm aq rl := by kernel_rfl
theorem fill58 (Nx : Value → ByteArray) (Tl : Value → Value) (Em Ok : Value → Bool) (Rn : ByteArray → Int) (Rb : ByteArray → Bool) (Cn : ByteArray → Int) (Cb : ByteArray → Bool) (Nn : ByteArray → Int) (Nb : ByteArray → Bool) (Lt : ByteArray → ByteArray) (Ln : ByteArray → Int) (Lb : ByteArray → Bool) (A : Option Blk) (l : Value) (b : Bool) (rd rs1 rs2 csr imm : Int) (aq rl : Bool) : callK (ctx (fillΦ Nx Tl Em Ok Rn Rb Cn Cb Nn Nb Lt Ln Lb)) 20 0 41 [rp, .pointer (some ⟨1, 0, none⟩)] [A, some ⟨instC ⟨59, rd, rs1, rs2, csr, imm, aq, rl⟩, 24, none⟩, some ⟨[l, .bool b], 80, none⟩] vh = fillT13 Nx Tl Em Ok Rn Rb Cn Cb Nn Nb Lt Ln Lb A l b 59 rd rs1 rs2 csr imm aq rl := by kernel_rfl
theorem fill59 (Nx : Value → ByteArray) (Tl : Value → Value) (Em Ok : Value → Bool) (Rn : ByteArray → Int) (Rb : ByteArray → Bool) (Cn : ByteArray → Int) (Cb : ByteArray → Bool) (Nn : ByteArray → Int) (Nb : ByteArray → Bool) (Lt : ByteArray → ByteArray) (Ln : ByteArray → Int) (Lb : ByteArray → Bool) (A : Option Blk) (l : Value) (b : Bool) (rd rs1 rs2 csr imm : Int) (aq rl : Bool) : callK (ctx (fillΦ Nx Tl Em Ok Rn Rb Cn Cb Nn Nb Lt Ln Lb)) 20 0 41 [rp, .pointer (some ⟨1, 0, none⟩)] [A, some ⟨instC ⟨60, rd, rs1, rs2, csr, imm, aq, rl⟩, 24, none⟩, some ⟨[l, .bool b], 80, none⟩] vh = fillT14 Nx Tl Em Ok Rn Rb Cn Cb Nn Nb Lt Ln Lb A l b 60 rd rs1 rs2 csr imm aq rl := by kernel_rfl
theorem fill60 (Nx : Value → ByteArray) (Tl : Value → Value) (Em Ok : Value → Bool) (Rn : ByteArray → Int) (Rb : ByteArray → Bool) (Cn : ByteArray → Int) (Cb : ByteArray → Bool) (Nn : ByteArray → Int) (Nb : ByteArray → Bool) (Lt : ByteArray → ByteArray) (Ln : ByteArray → Int) (Lb : ByteArray → Bool) (A : Option Blk) (l : Value) (b : Bool) (rd rs1 rs2 csr imm : Int) (aq rl : Bool) : callK (ctx (fillΦ Nx Tl Em Ok Rn Rb Cn Cb Nn Nb Lt Ln Lb)) 20 0 41 [rp, .pointer (some ⟨1, 0, none⟩)] [A, some ⟨instC ⟨61, rd, rs1, rs2, csr, imm, aq, rl⟩, 24, none⟩, some ⟨[l, .bool b], 80, none⟩] vh = fillT14 Nx Tl Em Ok Rn Rb Cn Cb Nn Nb Lt Ln Lb A l b 61 rd rs1 rs2 csr imm aq rl := by kernel_rfl
theorem fill61 (Nx : Value → ByteArray) (Tl : Value → Value) (Em Ok : Value → Bool) (Rn : ByteArray → Int) (Rb : ByteArray → Bool) (Cn : ByteArray → Int) (Cb : ByteArray → Bool) (Nn : ByteArray → Int) (Nb : ByteArray → Bool) (Lt : ByteArray → ByteArray) (Ln : ByteArray → Int) (Lb : ByteArray → Bool) (A : Option Blk) (l : Value) (b : Bool) (rd rs1 rs2 csr imm : Int) (aq rl : Bool) : callK (ctx (fillΦ Nx Tl Em Ok Rn Rb Cn Cb Nn Nb Lt Ln Lb)) 20 0 41 [rp, .pointer (some ⟨1, 0, none⟩)] [A, some ⟨instC ⟨62, rd, rs1, rs2, csr, imm, aq, rl⟩, 24, none⟩, some ⟨[l, .bool b], 80, none⟩] vh = fillT14 Nx Tl Em Ok Rn Rb Cn Cb Nn Nb Lt Ln Lb A l b 62 rd rs1 rs2 csr imm aq rl := by kernel_rfl
theorem fill62 (Nx : Value → ByteArray) (Tl : Value → Value) (Em Ok : Value → Bool) (Rn : ByteArray → Int) (Rb : ByteArray → Bool) (Cn : ByteArray → Int) (Cb : ByteArray → Bool) (Nn : ByteArray → Int) (Nb : ByteArray → Bool) (Lt : ByteArray → ByteArray) (Ln : ByteArray → Int) (Lb : ByteArray → Bool) (A : Option Blk) (l : Value) (b : Bool) (rd rs1 rs2 csr imm : Int) (aq rl : Bool) : callK (ctx (fillΦ Nx Tl Em Ok Rn Rb Cn Cb Nn Nb Lt Ln Lb)) 20 0 41 [rp, .pointer (some ⟨1, 0, none⟩)] [A, some ⟨instC ⟨63, rd, rs1, rs2, csr, imm, aq, rl⟩, 24, none⟩, some ⟨[l, .bool b], 80, none⟩] vh = fillT14 Nx Tl Em Ok Rn Rb Cn Cb Nn Nb Lt Ln Lb A l b 63 rd rs1 rs2 csr imm aq rl := by kernel_rfl
theorem fill63 (Nx : Value → ByteArray) (Tl : Value → Value) (Em Ok : Value → Bool) (Rn : ByteArray → Int) (Rb : ByteArray → Bool) (Cn : ByteArray → Int) (Cb : ByteArray → Bool) (Nn : ByteArray → Int) (Nb : ByteArray → Bool) (Lt : ByteArray → ByteArray) (Ln : ByteArray → Int) (Lb : ByteArray → Bool) (A : Option Blk) (l : Value) (b : Bool) (rd rs1 rs2 csr imm : Int) (aq rl : Bool) : callK (ctx (fillΦ Nx Tl Em Ok Rn Rb Cn Cb Nn Nb Lt Ln Lb)) 20 0 41 [rp, .pointer (some ⟨1, 0, none⟩)] [A, some ⟨instC ⟨64, rd, rs1, rs2, csr, imm, aq, rl⟩, 24, none⟩, some ⟨[l, .bool b], 80, none⟩] vh = fillT14 Nx Tl Em Ok Rn Rb Cn Cb Nn Nb Lt Ln Lb A l b 64 rd rs1 rs2 csr imm aq rl := by kernel_rfl
theorem fill64 (Nx : Value → ByteArray) (Tl : Value → Value) (Em Ok : Value → Bool) (Rn : ByteArray → Int) (Rb : ByteArray → Bool) (Cn : ByteArray → Int) (Cb : ByteArray → Bool) (Nn : ByteArray → Int) (Nb : ByteArray → Bool) (Lt : ByteArray → ByteArray) (Ln : ByteArray → Int) (Lb : ByteArray → Bool) (A : Option Blk) (l : Value) (b : Bool) (rd rs1 rs2 csr imm : Int) (aq rl : Bool) : callK (ctx (fillΦ Nx Tl Em Ok Rn Rb Cn Cb Nn Nb Lt Ln Lb)) 20 0 41 [rp, .pointer (some ⟨1, 0, none⟩)] [A, some ⟨instC ⟨65, rd, rs1, rs2, csr, imm, aq, rl⟩, 24, none⟩, some ⟨[l, .bool b], 80, none⟩] vh = fillT14 Nx Tl Em Ok Rn Rb Cn Cb Nn Nb Lt Ln Lb A l b 65 rd rs1 rs2 csr imm aq rl := by kernel_rfl
theorem fill65 (Nx : Value → ByteArray) (Tl : Value → Value) (Em Ok : Value → Bool) (Rn : ByteArray → Int) (Rb : ByteArray → Bool) (Cn : ByteArray → Int) (Cb : ByteArray → Bool) (Nn : ByteArray → Int) (Nb : ByteArray → Bool) (Lt : ByteArray → ByteArray) (Ln : ByteArray → Int) (Lb : ByteArray → Bool) (A : Option Blk) (l : Value) (b : Bool) (rd rs1 rs2 csr imm : Int) (aq rl : Bool) : callK (ctx (fillΦ Nx Tl Em Ok Rn Rb Cn Cb Nn Nb Lt Ln Lb)) 20 0 41 [rp, .pointer (some ⟨1, 0, none⟩)] [A, some ⟨instC ⟨66, rd, rs1, rs2, csr, imm, aq, rl⟩, 24, none⟩, some ⟨[l, .bool b], 80, none⟩] vh = fillT14 Nx Tl Em Ok Rn Rb Cn Cb Nn Nb Lt Ln Lb A l b 66 rd rs1 rs2 csr imm aq rl := by kernel_rfl
theorem fill66 (Nx : Value → ByteArray) (Tl : Value → Value) (Em Ok : Value → Bool) (Rn : ByteArray → Int) (Rb : ByteArray → Bool) (Cn : ByteArray → Int) (Cb : ByteArray → Bool) (Nn : ByteArray → Int) (Nb : ByteArray → Bool) (Lt : ByteArray → ByteArray) (Ln : ByteArray → Int) (Lb : ByteArray → Bool) (A : Option Blk) (l : Value) (b : Bool) (rd rs1 rs2 csr imm : Int) (aq rl : Bool) : callK (ctx (fillΦ Nx Tl Em Ok Rn Rb Cn Cb Nn Nb Lt Ln Lb)) 20 0 41 [rp, .pointer (some ⟨1, 0, none⟩)] [A, some ⟨instC ⟨67, rd, rs1, rs2, csr, imm, aq, rl⟩, 24, none⟩, some ⟨[l, .bool b], 80, none⟩] vh = fillT14 Nx Tl Em Ok Rn Rb Cn Cb Nn Nb Lt Ln Lb A l b 67 rd rs1 rs2 csr imm aq rl := by kernel_rfl
theorem fill67 (Nx : Value → ByteArray) (Tl : Value → Value) (Em Ok : Value → Bool) (Rn : ByteArray → Int) (Rb : ByteArray → Bool) (Cn : ByteArray → Int) (Cb : ByteArray → Bool) (Nn : ByteArray → Int) (Nb : ByteArray → Bool) (Lt : ByteArray → ByteArray) (Ln : ByteArray → Int) (Lb : ByteArray → Bool) (A : Option Blk) (l : Value) (b : Bool) (rd rs1 rs2 csr imm : Int) (aq rl : Bool) : callK (ctx (fillΦ Nx Tl Em Ok Rn Rb Cn Cb Nn Nb Lt Ln Lb)) 20 0 41 [rp, .pointer (some ⟨1, 0, none⟩)] [A, some ⟨instC ⟨68, rd, rs1, rs2, csr, imm, aq, rl⟩, 24, none⟩, some ⟨[l, .bool b], 80, none⟩] vh = fillT14 Nx Tl Em Ok Rn Rb Cn Cb Nn Nb Lt Ln Lb A l b 68 rd rs1 rs2 csr imm aq rl := by kernel_rfl
theorem fill68 (Nx : Value → ByteArray) (Tl : Value → Value) (Em Ok : Value → Bool) (Rn : ByteArray → Int) (Rb : ByteArray → Bool) (Cn : ByteArray → Int) (Cb : ByteArray → Bool) (Nn : ByteArray → Int) (Nb : ByteArray → Bool) (Lt : ByteArray → ByteArray) (Ln : ByteArray → Int) (Lb : ByteArray → Bool) (A : Option Blk) (l : Value) (b : Bool) (rd rs1 rs2 csr imm : Int) (aq rl : Bool) : callK (ctx (fillΦ Nx Tl Em Ok Rn Rb Cn Cb Nn Nb Lt Ln Lb)) 20 0 41 [rp, .pointer (some ⟨1, 0, none⟩)] [A, some ⟨instC ⟨69, rd, rs1, rs2, csr, imm, aq, rl⟩, 24, none⟩, some ⟨[l, .bool b], 80, none⟩] vh = fillT14 Nx Tl Em Ok Rn Rb Cn Cb Nn Nb Lt Ln Lb A l b 69 rd rs1 rs2 csr imm aq rl := by kernel_rfl
end Go.Proofs.YtgkicojmgokinaaGreatDoor.Ab
namespace Go.Proofs.YtgkicojmgokinaaGreatDoor.Ab
open Go Go.RowKit
set_option linter.unusedVariables false
set_option linter.unusedSimpArgs false
set_option maxRecDepth 100000
theorem okL_tl {l : Value} (h : okL l = true) : okL (tlV l) = true := by
  obtain ⟨ls, rfl, hl⟩ := okL_inv h
  rw [tlV_lV]
  match ls with
  | none => rfl
  | some [] => rfl
  | some (x :: r) =>
    show ((r.map sv).all isSh && Nat.beq r.length (r.map sv).length) = true
    rw [Bool.and_eq_true, List.length_map]
    refine ⟨?_, Nat.beq_refl _⟩
    rw [List.all_eq_true]
    intro y hy
    obtain ⟨z, hz, rfl⟩ := List.mem_map.1 hy
    exact hl _ rfl z (List.mem_cons_of_mem _ hz)
theorem okL_nx {l : Value} (h : okL l = true) : ln (nxV l) = true := by
  obtain ⟨ls, rfl, hl⟩ := okL_inv h
  rw [nxV_lV]
  match ls with
  | none => rfl
  | some [] => rfl
  | some (x :: r) => exact hl _ rfl x (List.mem_cons_self ..)
theorem ln_liT {s : ByteArray} (h : ln s = true) : ln (liT s) = true := (ln_cut h).1
def rsortL : List Nat := [0, 0, 1, 2, 3, 3, 3, 3, 3, 3, 2, 2, 2, 2, 2, 4, 4, 4, 5, 5, 5, 5, 5, 5, 6, 6, 6, 7, 7, 7, 7, 7, 7, 7, 7, 7, 7, 8, 9, 9, 9, 9, 9, 10, 11, 11, 11, 12, 12, 12, 7, 7, 7, 7, 7, 7, 7, 7, 13, 14, 14, 14, 14, 14, 14, 14, 14, 14, 14]
def rsortF (op : Int) : Nat := rsortL.getD (op - 1).toNat 0
def fiV (l : Value) (i : Inst) : Inst := match rsortF i.op with
  | 0 => ⟨i.op, regN (nxV l), i.rs1, i.rs2, i.csr, IntKind.u32.wrap (numN (nxV (tlV l)) * 4096), i.aq, i.rl⟩
  | 1 => ⟨i.op, regN (nxV l), i.rs1, i.rs2, i.csr, numN (nxV (tlV l)), i.aq, i.rl⟩
  | 2 => ⟨i.op, regN (nxV l), liN (nxV (tlV l)), i.rs2, i.csr, numN (liT (nxV (tlV l))), i.aq, i.rl⟩
  | 3 => ⟨i.op, i.rd, regN (nxV l), regN (nxV (tlV l)), i.csr, numN (nxV (tlV (tlV l))), i.aq, i.rl⟩
  | 4 => ⟨i.op, i.rd, liN (nxV (tlV l)), regN (nxV l), i.csr, numN (liT (nxV (tlV l))), i.aq, i.rl⟩
  | 5 => ⟨i.op, regN (nxV l), regN (nxV (tlV l)), i.rs2, i.csr, numN (nxV (tlV (tlV l))), i.aq, i.rl⟩
  | 6 => ⟨i.op, regN (nxV l), regN (nxV (tlV l)), i.rs2, i.csr, numN (nxV (tlV (tlV l))), i.aq, i.rl⟩
  | 7 => ⟨i.op, regN (nxV l), regN (nxV (tlV l)), regN (nxV (tlV (tlV l))), i.csr, i.imm, i.aq, i.rl⟩
  | 8 => ⟨i.op, i.rd, i.rs1, i.rs2, i.csr, bits .or .u32 (IntKind.u32.wrap (numN (nxV l) * 16)) (numN (nxV (tlV l))), i.aq, i.rl⟩
  | 9 => ⟨i.op, i.rd, i.rs1, i.rs2, i.csr, i.imm, i.aq, i.rl⟩
  | 10 => ⟨i.op, i.rd, regN (nxV l), regN (nxV (tlV l)), i.csr, i.imm, i.aq, i.rl⟩
  | 11 => ⟨i.op, regN (nxV l), regN (nxV (tlV (tlV l))), i.rs2, csrN (nxV (tlV l)), i.imm, i.aq, i.rl⟩
  | 12 => ⟨i.op, regN (nxV l), i.rs1, i.rs2, csrN (nxV (tlV l)), numN (nxV (tlV (tlV l))), i.aq, i.rl⟩
  | 13 => ⟨i.op, regN (nxV l), liN (nxV (tlV l)), i.rs2, i.csr, i.imm, i.aq, i.rl⟩
  | 14 => ⟨i.op, regN (nxV l), liN (nxV (tlV (tlV l))), regN (nxV (tlV l)), i.csr, i.imm, i.aq, i.rl⟩
  | _ => i
def fbV (l : Value) (i : Inst) : Bool := match rsortF i.op with
  | 0 => (emV l) || (regB (nxV l)) || (emV (tlV l)) || (numB (nxV (tlV l)))
  | 1 => (emV l) || (regB (nxV l)) || (emV (tlV l)) || (numB (nxV (tlV l)))
  | 2 => (emV l) || (regB (nxV l)) || (emV (tlV l)) || (liB (nxV (tlV l))) || (numB (liT (nxV (tlV l))))
  | 3 => (emV l) || (regB (nxV l)) || (emV (tlV l)) || (regB (nxV (tlV l))) || (emV (tlV (tlV l))) || (numB (nxV (tlV (tlV l))))
  | 4 => (emV l) || (regB (nxV l)) || (emV (tlV l)) || (liB (nxV (tlV l))) || (numB (liT (nxV (tlV l))))
  | 5 => (emV l) || (regB (nxV l)) || (emV (tlV l)) || (regB (nxV (tlV l))) || (emV (tlV (tlV l))) || (numB (nxV (tlV (tlV l))))
  | 6 => (emV l) || (regB (nxV l)) || (emV (tlV l)) || (regB (nxV (tlV l))) || (emV (tlV (tlV l))) || (numB (nxV (tlV (tlV l))))
  | 7 => (emV l) || (regB (nxV l)) || (emV (tlV l)) || (regB (nxV (tlV l))) || (emV (tlV (tlV l))) || (regB (nxV (tlV (tlV l))))
  | 8 => (emV l) || (numB (nxV l)) || (emV (tlV l)) || (numB (nxV (tlV l)))
  | 9 => false
  | 10 => (emV l) || (regB (nxV l)) || (emV (tlV l)) || (regB (nxV (tlV l)))
  | 11 => (emV l) || (regB (nxV l)) || (emV (tlV l)) || (csrB (nxV (tlV l))) || (emV (tlV (tlV l))) || (regB (nxV (tlV (tlV l))))
  | 12 => (emV l) || (regB (nxV l)) || (emV (tlV l)) || (csrB (nxV (tlV l))) || (emV (tlV (tlV l))) || (numB (nxV (tlV (tlV l))))
  | 13 => (emV l) || (regB (nxV l)) || (emV (tlV l)) || (liB (nxV (tlV l)))
  | 14 => (emV l) || (regB (nxV l)) || (emV (tlV l)) || (regB (nxV (tlV l))) || (emV (tlV (tlV l))) || (liB (nxV (tlV (tlV l))))
  | _ => false
def flV (l : Value) (i : Inst) : Value := match rsortF i.op with
  | 0 => (tlV (tlV l))
  | 1 => (tlV (tlV l))
  | 2 => (tlV (tlV l))
  | 3 => (tlV (tlV (tlV l)))
  | 4 => (tlV (tlV l))
  | 5 => (tlV (tlV (tlV l)))
  | 6 => (tlV (tlV (tlV l)))
  | 7 => (tlV (tlV (tlV l)))
  | 8 => (tlV (tlV l))
  | 9 => l
  | 10 => (tlV (tlV l))
  | 11 => (tlV (tlV (tlV l)))
  | 12 => (tlV (tlV (tlV l)))
  | 13 => (tlV (tlV l))
  | 14 => (tlV (tlV (tlV l)))
  | _ => l
theorem fillR0 (A : Option Blk) (l : Value) (b : Bool) (op rd rs1 rs2 csr imm : Int) (aq rl : Bool) (hl : okL l = true) (ho : rsortF op = 0) : fillT0 nxV tlV emV okL regN regB csrN csrB numN numB liT liN liB A l b op rd rs1 rs2 csr imm aq rl = some (.tuple #[], [A, some ⟨instC (fiV l ⟨op, rd, rs1, rs2, csr, imm, aq, rl⟩), 24, none⟩, some ⟨[flV l ⟨op, rd, rs1, rs2, csr, imm, aq, rl⟩, .bool (b || fbV l ⟨op, rd, rs1, rs2, csr, imm, aq, rl⟩)], 80, none⟩]) := by
  have t1 := okL_tl hl
  have t2 := okL_tl t1
  have n0 := okL_nx hl
  have n1 := okL_nx t1
  have n2 := okL_nx t2
  have l0 := ln_liT n0
  have l1 := ln_liT n1
  unfold fillT0 fiV fbV flV
  simp only [show rsortF (⟨op, rd, rs1, rs2, csr, imm, aq, rl⟩ : Inst).op = 0 from ho, hl, t1, t2, n0, n1, n2, l0, l1, cond_true, Bool.or_assoc, Bool.or_false]
theorem fillR1 (A : Option Blk) (l : Value) (b : Bool) (op rd rs1 rs2 csr imm : Int) (aq rl : Bool) (hl : okL l = true) (ho : rsortF op = 1) : fillT1 nxV tlV emV okL regN regB csrN csrB numN numB liT liN liB A l b op rd rs1 rs2 csr imm aq rl = some (.tuple #[], [A, some ⟨instC (fiV l ⟨op, rd, rs1, rs2, csr, imm, aq, rl⟩), 24, none⟩, some ⟨[flV l ⟨op, rd, rs1, rs2, csr, imm, aq, rl⟩, .bool (b || fbV l ⟨op, rd, rs1, rs2, csr, imm, aq, rl⟩)], 80, none⟩]) := by
  have t1 := okL_tl hl
  have t2 := okL_tl t1
  have n0 := okL_nx hl
  have n1 := okL_nx t1
  have n2 := okL_nx t2
  have l0 := ln_liT n0
  have l1 := ln_liT n1
  unfold fillT1 fiV fbV flV
  simp only [show rsortF (⟨op, rd, rs1, rs2, csr, imm, aq, rl⟩ : Inst).op = 1 from ho, hl, t1, t2, n0, n1, n2, l0, l1, cond_true, Bool.or_assoc, Bool.or_false]
theorem fillR2 (A : Option Blk) (l : Value) (b : Bool) (op rd rs1 rs2 csr imm : Int) (aq rl : Bool) (hl : okL l = true) (ho : rsortF op = 2) : fillT2 nxV tlV emV okL regN regB csrN csrB numN numB liT liN liB A l b op rd rs1 rs2 csr imm aq rl = some (.tuple #[], [A, some ⟨instC (fiV l ⟨op, rd, rs1, rs2, csr, imm, aq, rl⟩), 24, none⟩, some ⟨[flV l ⟨op, rd, rs1, rs2, csr, imm, aq, rl⟩, .bool (b || fbV l ⟨op, rd, rs1, rs2, csr, imm, aq, rl⟩)], 80, none⟩]) := by
  have t1 := okL_tl hl
  have t2 := okL_tl t1
  have n0 := okL_nx hl
  have n1 := okL_nx t1
  have n2 := okL_nx t2
  have l0 := ln_liT n0
  have l1 := ln_liT n1
  unfold fillT2 fiV fbV flV
  simp only [show rsortF (⟨op, rd, rs1, rs2, csr, imm, aq, rl⟩ : Inst).op = 2 from ho, hl, t1, t2, n0, n1, n2, l0, l1, cond_true, Bool.or_assoc, Bool.or_false]
theorem fillR3 (A : Option Blk) (l : Value) (b : Bool) (op rd rs1 rs2 csr imm : Int) (aq rl : Bool) (hl : okL l = true) (ho : rsortF op = 3) : fillT3 nxV tlV emV okL regN regB csrN csrB numN numB liT liN liB A l b op rd rs1 rs2 csr imm aq rl = some (.tuple #[], [A, some ⟨instC (fiV l ⟨op, rd, rs1, rs2, csr, imm, aq, rl⟩), 24, none⟩, some ⟨[flV l ⟨op, rd, rs1, rs2, csr, imm, aq, rl⟩, .bool (b || fbV l ⟨op, rd, rs1, rs2, csr, imm, aq, rl⟩)], 80, none⟩]) := by
  have t1 := okL_tl hl
  have t2 := okL_tl t1
  have n0 := okL_nx hl
  have n1 := okL_nx t1
  have n2 := okL_nx t2
  have l0 := ln_liT n0
  have l1 := ln_liT n1
  unfold fillT3 fiV fbV flV
  simp only [show rsortF (⟨op, rd, rs1, rs2, csr, imm, aq, rl⟩ : Inst).op = 3 from ho, hl, t1, t2, n0, n1, n2, l0, l1, cond_true, Bool.or_assoc, Bool.or_false]
theorem fillR4 (A : Option Blk) (l : Value) (b : Bool) (op rd rs1 rs2 csr imm : Int) (aq rl : Bool) (hl : okL l = true) (ho : rsortF op = 4) : fillT4 nxV tlV emV okL regN regB csrN csrB numN numB liT liN liB A l b op rd rs1 rs2 csr imm aq rl = some (.tuple #[], [A, some ⟨instC (fiV l ⟨op, rd, rs1, rs2, csr, imm, aq, rl⟩), 24, none⟩, some ⟨[flV l ⟨op, rd, rs1, rs2, csr, imm, aq, rl⟩, .bool (b || fbV l ⟨op, rd, rs1, rs2, csr, imm, aq, rl⟩)], 80, none⟩]) := by
  have t1 := okL_tl hl
  have t2 := okL_tl t1
  have n0 := okL_nx hl
  have n1 := okL_nx t1
  have n2 := okL_nx t2
  have l0 := ln_liT n0
  have l1 := ln_liT n1
  unfold fillT4 fiV fbV flV
  simp only [show rsortF (⟨op, rd, rs1, rs2, csr, imm, aq, rl⟩ : Inst).op = 4 from ho, hl, t1, t2, n0, n1, n2, l0, l1, cond_true, Bool.or_assoc, Bool.or_false]
theorem fillR5 (A : Option Blk) (l : Value) (b : Bool) (op rd rs1 rs2 csr imm : Int) (aq rl : Bool) (hl : okL l = true) (ho : rsortF op = 5) : fillT5 nxV tlV emV okL regN regB csrN csrB numN numB liT liN liB A l b op rd rs1 rs2 csr imm aq rl = some (.tuple #[], [A, some ⟨instC (fiV l ⟨op, rd, rs1, rs2, csr, imm, aq, rl⟩), 24, none⟩, some ⟨[flV l ⟨op, rd, rs1, rs2, csr, imm, aq, rl⟩, .bool (b || fbV l ⟨op, rd, rs1, rs2, csr, imm, aq, rl⟩)], 80, none⟩]) := by
  have t1 := okL_tl hl
  have t2 := okL_tl t1
  have n0 := okL_nx hl
  have n1 := okL_nx t1
  have n2 := okL_nx t2
  have l0 := ln_liT n0
  have l1 := ln_liT n1
  unfold fillT5 fiV fbV flV
  simp only [show rsortF (⟨op, rd, rs1, rs2, csr, imm, aq, rl⟩ : Inst).op = 5 from ho, hl, t1, t2, n0, n1, n2, l0, l1, cond_true, Bool.or_assoc, Bool.or_false]
theorem fillR6 (A : Option Blk) (l : Value) (b : Bool) (op rd rs1 rs2 csr imm : Int) (aq rl : Bool) (hl : okL l = true) (ho : rsortF op = 6) : fillT6 nxV tlV emV okL regN regB csrN csrB numN numB liT liN liB A l b op rd rs1 rs2 csr imm aq rl = some (.tuple #[], [A, some ⟨instC (fiV l ⟨op, rd, rs1, rs2, csr, imm, aq, rl⟩), 24, none⟩, some ⟨[flV l ⟨op, rd, rs1, rs2, csr, imm, aq, rl⟩, .bool (b || fbV l ⟨op, rd, rs1, rs2, csr, imm, aq, rl⟩)], 80, none⟩]) := by
  have t1 := okL_tl hl
  have t2 := okL_tl t1
  have n0 := okL_nx hl
  have n1 := okL_nx t1
  have n2 := okL_nx t2
  have l0 := ln_liT n0
  have l1 := ln_liT n1
  unfold fillT6 fiV fbV flV
  simp only [show rsortF (⟨op, rd, rs1, rs2, csr, imm, aq, rl⟩ : Inst).op = 6 from ho, hl, t1, t2, n0, n1, n2, l0, l1, cond_true, Bool.or_assoc, Bool.or_false]
theorem fillR7 (A : Option Blk) (l : Value) (b : Bool) (op rd rs1 rs2 csr imm : Int) (aq rl : Bool) (hl : okL l = true) (ho : rsortF op = 7) : fillT7 nxV tlV emV okL regN regB csrN csrB numN numB liT liN liB A l b op rd rs1 rs2 csr imm aq rl = some (.tuple #[], [A, some ⟨instC (fiV l ⟨op, rd, rs1, rs2, csr, imm, aq, rl⟩), 24, none⟩, some ⟨[flV l ⟨op, rd, rs1, rs2, csr, imm, aq, rl⟩, .bool (b || fbV l ⟨op, rd, rs1, rs2, csr, imm, aq, rl⟩)], 80, none⟩]) := by
  have t1 := okL_tl hl
  have t2 := okL_tl t1
  have n0 := okL_nx hl
  have n1 := okL_nx t1
  have n2 := okL_nx t2
  have l0 := ln_liT n0
  have l1 := ln_liT n1
  unfold fillT7 fiV fbV flV
  simp only [show rsortF (⟨op, rd, rs1, rs2, csr, imm, aq, rl⟩ : Inst).op = 7 from ho, hl, t1, t2, n0, n1, n2, l0, l1, cond_true, Bool.or_assoc, Bool.or_false]
theorem fillR8 (A : Option Blk) (l : Value) (b : Bool) (op rd rs1 rs2 csr imm : Int) (aq rl : Bool) (hl : okL l = true) (ho : rsortF op = 8) : fillT8 nxV tlV emV okL regN regB csrN csrB numN numB liT liN liB A l b op rd rs1 rs2 csr imm aq rl = some (.tuple #[], [A, some ⟨instC (fiV l ⟨op, rd, rs1, rs2, csr, imm, aq, rl⟩), 24, none⟩, some ⟨[flV l ⟨op, rd, rs1, rs2, csr, imm, aq, rl⟩, .bool (b || fbV l ⟨op, rd, rs1, rs2, csr, imm, aq, rl⟩)], 80, none⟩]) := by
  have t1 := okL_tl hl
  have t2 := okL_tl t1
  have n0 := okL_nx hl
  have n1 := okL_nx t1
  have n2 := okL_nx t2
  have l0 := ln_liT n0
  have l1 := ln_liT n1
  unfold fillT8 fiV fbV flV
  simp only [show rsortF (⟨op, rd, rs1, rs2, csr, imm, aq, rl⟩ : Inst).op = 8 from ho, hl, t1, t2, n0, n1, n2, l0, l1, cond_true, Bool.or_assoc, Bool.or_false]
theorem fillR9 (A : Option Blk) (l : Value) (b : Bool) (op rd rs1 rs2 csr imm : Int) (aq rl : Bool) (hl : okL l = true) (ho : rsortF op = 9) : fillT9 nxV tlV emV okL regN regB csrN csrB numN numB liT liN liB A l b op rd rs1 rs2 csr imm aq rl = some (.tuple #[], [A, some ⟨instC (fiV l ⟨op, rd, rs1, rs2, csr, imm, aq, rl⟩), 24, none⟩, some ⟨[flV l ⟨op, rd, rs1, rs2, csr, imm, aq, rl⟩, .bool (b || fbV l ⟨op, rd, rs1, rs2, csr, imm, aq, rl⟩)], 80, none⟩]) := by
  have t1 := okL_tl hl
  have t2 := okL_tl t1
  have n0 := okL_nx hl
  have n1 := okL_nx t1
  have n2 := okL_nx t2
  have l0 := ln_liT n0
  have l1 := ln_liT n1
  unfold fillT9 fiV fbV flV
  simp only [show rsortF (⟨op, rd, rs1, rs2, csr, imm, aq, rl⟩ : Inst).op = 9 from ho, hl, t1, t2, n0, n1, n2, l0, l1, cond_true, Bool.or_assoc, Bool.or_false]
theorem fillR10 (A : Option Blk) (l : Value) (b : Bool) (op rd rs1 rs2 csr imm : Int) (aq rl : Bool) (hl : okL l = true) (ho : rsortF op = 10) : fillT10 nxV tlV emV okL regN regB csrN csrB numN numB liT liN liB A l b op rd rs1 rs2 csr imm aq rl = some (.tuple #[], [A, some ⟨instC (fiV l ⟨op, rd, rs1, rs2, csr, imm, aq, rl⟩), 24, none⟩, some ⟨[flV l ⟨op, rd, rs1, rs2, csr, imm, aq, rl⟩, .bool (b || fbV l ⟨op, rd, rs1, rs2, csr, imm, aq, rl⟩)], 80, none⟩]) := by
  have t1 := okL_tl hl
  have t2 := okL_tl t1
  have n0 := okL_nx hl
  have n1 := okL_nx t1
  have n2 := okL_nx t2
  have l0 := ln_liT n0
  have l1 := ln_liT n1
  unfold fillT10 fiV fbV flV
  simp only [show rsortF (⟨op, rd, rs1, rs2, csr, imm, aq, rl⟩ : Inst).op = 10 from ho, hl, t1, t2, n0, n1, n2, l0, l1, cond_true, Bool.or_assoc, Bool.or_false]
theorem fillR11 (A : Option Blk) (l : Value) (b : Bool) (op rd rs1 rs2 csr imm : Int) (aq rl : Bool) (hl : okL l = true) (ho : rsortF op = 11) : fillT11 nxV tlV emV okL regN regB csrN csrB numN numB liT liN liB A l b op rd rs1 rs2 csr imm aq rl = some (.tuple #[], [A, some ⟨instC (fiV l ⟨op, rd, rs1, rs2, csr, imm, aq, rl⟩), 24, none⟩, some ⟨[flV l ⟨op, rd, rs1, rs2, csr, imm, aq, rl⟩, .bool (b || fbV l ⟨op, rd, rs1, rs2, csr, imm, aq, rl⟩)], 80, none⟩]) := by
  have t1 := okL_tl hl
  have t2 := okL_tl t1
  have n0 := okL_nx hl
  have n1 := okL_nx t1
  have n2 := okL_nx t2
  have l0 := ln_liT n0
  have l1 := ln_liT n1
  unfold fillT11 fiV fbV flV
  simp only [show rsortF (⟨op, rd, rs1, rs2, csr, imm, aq, rl⟩ : Inst).op = 11 from ho, hl, t1, t2, n0, n1, n2, l0, l1, cond_true, Bool.or_assoc, Bool.or_false]
theorem fillR12 (A : Option Blk) (l : Value) (b : Bool) (op rd rs1 rs2 csr imm : Int) (aq rl : Bool) (hl : okL l = true) (ho : rsortF op = 12) : fillT12 nxV tlV emV okL regN regB csrN csrB numN numB liT liN liB A l b op rd rs1 rs2 csr imm aq rl = some (.tuple #[], [A, some ⟨instC (fiV l ⟨op, rd, rs1, rs2, csr, imm, aq, rl⟩), 24, none⟩, some ⟨[flV l ⟨op, rd, rs1, rs2, csr, imm, aq, rl⟩, .bool (b || fbV l ⟨op, rd, rs1, rs2, csr, imm, aq, rl⟩)], 80, none⟩]) := by
  have t1 := okL_tl hl
  have t2 := okL_tl t1
  have n0 := okL_nx hl
  have n1 := okL_nx t1
  have n2 := okL_nx t2
  have l0 := ln_liT n0
  have l1 := ln_liT n1
  unfold fillT12 fiV fbV flV
  simp only [show rsortF (⟨op, rd, rs1, rs2, csr, imm, aq, rl⟩ : Inst).op = 12 from ho, hl, t1, t2, n0, n1, n2, l0, l1, cond_true, Bool.or_assoc, Bool.or_false]
theorem fillR13 (A : Option Blk) (l : Value) (b : Bool) (op rd rs1 rs2 csr imm : Int) (aq rl : Bool) (hl : okL l = true) (ho : rsortF op = 13) : fillT13 nxV tlV emV okL regN regB csrN csrB numN numB liT liN liB A l b op rd rs1 rs2 csr imm aq rl = some (.tuple #[], [A, some ⟨instC (fiV l ⟨op, rd, rs1, rs2, csr, imm, aq, rl⟩), 24, none⟩, some ⟨[flV l ⟨op, rd, rs1, rs2, csr, imm, aq, rl⟩, .bool (b || fbV l ⟨op, rd, rs1, rs2, csr, imm, aq, rl⟩)], 80, none⟩]) := by
  have t1 := okL_tl hl
  have t2 := okL_tl t1
  have n0 := okL_nx hl
  have n1 := okL_nx t1
  have n2 := okL_nx t2
  have l0 := ln_liT n0
  have l1 := ln_liT n1
  unfold fillT13 fiV fbV flV
  simp only [show rsortF (⟨op, rd, rs1, rs2, csr, imm, aq, rl⟩ : Inst).op = 13 from ho, hl, t1, t2, n0, n1, n2, l0, l1, cond_true, Bool.or_assoc, Bool.or_false]
theorem fillR14 (A : Option Blk) (l : Value) (b : Bool) (op rd rs1 rs2 csr imm : Int) (aq rl : Bool) (hl : okL l = true) (ho : rsortF op = 14) : fillT14 nxV tlV emV okL regN regB csrN csrB numN numB liT liN liB A l b op rd rs1 rs2 csr imm aq rl = some (.tuple #[], [A, some ⟨instC (fiV l ⟨op, rd, rs1, rs2, csr, imm, aq, rl⟩), 24, none⟩, some ⟨[flV l ⟨op, rd, rs1, rs2, csr, imm, aq, rl⟩, .bool (b || fbV l ⟨op, rd, rs1, rs2, csr, imm, aq, rl⟩)], 80, none⟩]) := by
  have t1 := okL_tl hl
  have t2 := okL_tl t1
  have n0 := okL_nx hl
  have n1 := okL_nx t1
  have n2 := okL_nx t2
  have l0 := ln_liT n0
  have l1 := ln_liT n1
  unfold fillT14 fiV fbV flV
  simp only [show rsortF (⟨op, rd, rs1, rs2, csr, imm, aq, rl⟩ : Inst).op = 14 from ho, hl, t1, t2, n0, n1, n2, l0, l1, cond_true, Bool.or_assoc, Bool.or_false]
theorem fillAll (A : Option Blk) (l : Value) (b : Bool) (rd rs1 rs2 csr imm : Int) (aq rl : Bool) (hl : okL l = true) : ∀ k : Nat, k < 69 → callK (ctx (fillΦ nxV tlV emV okL regN regB csrN csrB numN numB liT liN liB)) 20 0 41 [rp, .pointer (some ⟨1, 0, none⟩)] [A, some ⟨instC ⟨(k : Int) + 1, rd, rs1, rs2, csr, imm, aq, rl⟩, 24, none⟩, some ⟨[l, .bool b], 80, none⟩] vh = some (.tuple #[], [A, some ⟨instC (fiV l ⟨(k : Int) + 1, rd, rs1, rs2, csr, imm, aq, rl⟩), 24, none⟩, some ⟨[flV l ⟨(k : Int) + 1, rd, rs1, rs2, csr, imm, aq, rl⟩, .bool (b || fbV l ⟨(k : Int) + 1, rd, rs1, rs2, csr, imm, aq, rl⟩)], 80, none⟩])
  | 0, _ => (fill0 nxV tlV emV okL regN regB csrN csrB numN numB liT liN liB A l b rd rs1 rs2 csr imm aq rl).trans (fillR0 A l b 1 rd rs1 rs2 csr imm aq rl hl rfl)
  | 1, _ => (fill1 nxV tlV emV okL regN regB csrN csrB numN numB liT liN liB A l b rd rs1 rs2 csr imm aq rl).trans (fillR0 A l b 2 rd rs1 rs2 csr imm aq rl hl rfl)
  | 2, _ => (fill2 nxV tlV emV okL regN regB csrN csrB numN numB liT liN liB A l b rd rs1 rs2 csr imm aq rl).trans (fillR1 A l b 3 rd rs1 rs2 csr imm aq rl hl rfl)
  | 3, _ => (fill3 nxV tlV emV okL regN regB csrN csrB numN numB liT liN liB A l b rd rs1 rs2 csr imm aq rl).trans (fillR2 A l b 4 rd rs1 rs2 csr imm aq rl hl rfl)
  | 4, _ => (fill4 nxV tlV emV okL regN regB csrN csrB numN numB liT liN liB A l b rd rs1 rs2 csr imm aq rl).trans (fillR3 A l b 5 rd rs1 rs2 csr imm aq rl hl rfl)
  | 5, _ => (fill5 nxV tlV emV okL regN regB csrN csrB numN numB liT liN liB A l b rd rs1 rs2 csr imm aq rl).trans (fillR3 A l b 6 rd rs1 rs2 csr imm aq rl hl rfl)
  | 6, _ => (fill6 nxV tlV emV okL regN regB csrN csrB numN numB liT liN liB A l b rd rs1 rs2 csr imm aq rl).trans (fillR3 A l b 7 rd rs1 rs2 csr imm aq rl hl rfl)
  | 7, _ => (fill7 nxV tlV emV okL regN regB csrN csrB numN numB liT liN liB A l b rd rs1 rs2 csr imm aq rl).trans (fillR3 A l b 8 rd rs1 rs2 csr imm aq rl hl rfl)
  | 8, _ => (fill8 nxV tlV emV okL regN regB csrN csrB numN numB liT liN liB A l b rd rs1 rs2 csr imm aq rl).trans (fillR3 A l b 9 rd rs1 rs2 csr imm aq rl hl rfl)
  | 9, _ => (fill9 nxV tlV emV okL regN regB csrN csrB numN numB liT liN liB A l b rd rs1 rs2 csr imm aq rl).trans (fillR3 A l b 10 rd rs1 rs2 csr imm aq rl hl rfl)
  | 10, _ => (fill10 nxV tlV emV okL regN regB csrN csrB numN numB liT liN liB A l b rd rs1 rs2 csr imm aq rl).trans (fillR2 A l b 11 rd rs1 rs2 csr imm aq rl hl rfl)
  | 11, _ => (fill11 nxV tlV emV okL regN regB csrN csrB numN numB liT liN liB A l b rd rs1 rs2 csr imm aq rl).trans (fillR2 A l b 12 rd rs1 rs2 csr imm aq rl hl rfl)
  | 12, _ => (fill12 nxV tlV emV okL regN regB csrN csrB numN numB liT liN liB A l b rd rs1 rs2 csr imm aq rl).trans (fillR2 A l b 13 rd rs1 rs2 csr imm aq rl hl rfl)
  | 13, _ => (fill13 nxV tlV emV okL regN regB csrN csrB numN numB liT liN liB A l b rd rs1 rs2 csr imm aq rl).trans (fillR2 A l b 14 rd rs1 rs2 csr imm aq rl hl rfl)
  | 14, _ => (fill14 nxV tlV emV okL regN regB csrN csrB numN numB liT liN liB A l b rd rs1 rs2 csr imm aq rl).trans (fillR2 A l b 15 rd rs1 rs2 csr imm aq rl hl rfl)
  | 15, _ => (fill15 nxV tlV emV okL regN regB csrN csrB numN numB liT liN liB A l b rd rs1 rs2 csr imm aq rl).trans (fillR4 A l b 16 rd rs1 rs2 csr imm aq rl hl rfl)
  | 16, _ => (fill16 nxV tlV emV okL regN regB csrN csrB numN numB liT liN liB A l b rd rs1 rs2 csr imm aq rl).trans (fillR4 A l b 17 rd rs1 rs2 csr imm aq rl hl rfl)
  | 17, _ => (fill17 nxV tlV emV okL regN regB csrN csrB numN numB liT liN liB A l b rd rs1 rs2 csr imm aq rl).trans (fillR4 A l b 18 rd rs1 rs2 csr imm aq rl hl rfl)
  | 18, _ => (fill18 nxV tlV emV okL regN regB csrN csrB numN numB liT liN liB A l b rd rs1 rs2 csr imm aq rl).trans (fillR5 A l b 19 rd rs1 rs2 csr imm aq rl hl rfl)
  | 19, _ => (fill19 nxV tlV emV okL regN regB csrN csrB numN numB liT liN liB A l b rd rs1 rs2 csr imm aq rl).trans (fillR5 A l b 20 rd rs1 rs2 csr imm aq rl hl rfl)
  | 20, _ => (fill20 nxV tlV emV okL regN regB csrN csrB numN numB liT liN liB A l b rd rs1 rs2 csr imm aq rl).trans (fillR5 A l b 21 rd rs1 rs2 csr imm aq rl hl rfl)
  | 21, _ => (fill21 nxV tlV emV okL regN regB csrN csrB numN numB liT liN liB A l b rd rs1 rs2 csr imm aq rl).trans (fillR5 A l b 22 rd rs1 rs2 csr imm aq rl hl rfl)
  | 22, _ => (fill22 nxV tlV emV okL regN regB csrN csrB numN numB liT liN liB A l b rd rs1 rs2 csr imm aq rl).trans (fillR5 A l b 23 rd rs1 rs2 csr imm aq rl hl rfl)
  | 23, _ => (fill23 nxV tlV emV okL regN regB csrN csrB numN numB liT liN liB A l b rd rs1 rs2 csr imm aq rl).trans (fillR5 A l b 24 rd rs1 rs2 csr imm aq rl hl rfl)
  | 24, _ => (fill24 nxV tlV emV okL regN regB csrN csrB numN numB liT liN liB A l b rd rs1 rs2 csr imm aq rl).trans (fillR6 A l b 25 rd rs1 rs2 csr imm aq rl hl rfl)
  | 25, _ => (fill25 nxV tlV emV okL regN regB csrN csrB numN numB liT liN liB A l b rd rs1 rs2 csr imm aq rl).trans (fillR6 A l b 26 rd rs1 rs2 csr imm aq rl hl rfl)
  | 26, _ => (fill26 nxV tlV emV okL regN regB csrN csrB numN numB liT liN liB A l b rd rs1 rs2 csr imm aq rl).trans (fillR6 A l b 27 rd rs1 rs2 csr imm aq rl hl rfl)
  | 27, _ => (fill27 nxV tlV emV okL regN regB csrN csrB numN numB liT liN liB A l b rd rs1 rs2 csr imm aq rl).trans (fillR7 A l b 28 rd rs1 rs2 csr imm aq rl hl rfl)
  | 28, _ => (fill28 nxV tlV emV okL regN regB csrN csrB numN numB liT liN liB A l b rd rs1 rs2 csr imm aq rl).trans (fillR7 A l b 29 rd rs1 rs2 csr imm aq rl hl rfl)
  | 29, _ => (fill29 nxV tlV emV okL regN regB csrN csrB numN numB liT liN liB A l b rd rs1 rs2 csr imm aq rl).trans (fillR7 A l b 30 rd rs1 rs2 csr imm aq rl hl rfl)
  | 30, _ => (fill30 nxV tlV emV okL regN regB csrN csrB numN numB liT liN liB A l b rd rs1 rs2 csr imm aq rl).trans (fillR7 A l b 31 rd rs1 rs2 csr imm aq rl hl rfl)
  | 31, _ => (fill31 nxV tlV emV okL regN regB csrN csrB numN numB liT liN liB A l b rd rs1 rs2 csr imm aq rl).trans (fillR7 A l b 32 rd rs1 rs2 csr imm aq rl hl rfl)
  | 32, _ => (fill32 nxV tlV emV okL regN regB csrN csrB numN numB liT liN liB A l b rd rs1 rs2 csr imm aq rl).trans (fillR7 A l b 33 rd rs1 rs2 csr imm aq rl hl rfl)
  | 33, _ => (fill33 nxV tlV emV okL regN regB csrN csrB numN numB liT liN liB A l b rd rs1 rs2 csr imm aq rl).trans (fillR7 A l b 34 rd rs1 rs2 csr imm aq rl hl rfl)
  | 34, _ => (fill34 nxV tlV emV okL regN regB csrN csrB numN numB liT liN liB A l b rd rs1 rs2 csr imm aq rl).trans (fillR7 A l b 35 rd rs1 rs2 csr imm aq rl hl rfl)
  | 35, _ => (fill35 nxV tlV emV okL regN regB csrN csrB numN numB liT liN liB A l b rd rs1 rs2 csr imm aq rl).trans (fillR7 A l b 36 rd rs1 rs2 csr imm aq rl hl rfl)
  | 36, _ => (fill36 nxV tlV emV okL regN regB csrN csrB numN numB liT liN liB A l b rd rs1 rs2 csr imm aq rl).trans (fillR7 A l b 37 rd rs1 rs2 csr imm aq rl hl rfl)
  | 37, _ => (fill37 nxV tlV emV okL regN regB csrN csrB numN numB liT liN liB A l b rd rs1 rs2 csr imm aq rl).trans (fillR8 A l b 38 rd rs1 rs2 csr imm aq rl hl rfl)
  | 38, _ => (fill38 nxV tlV emV okL regN regB csrN csrB numN numB liT liN liB A l b rd rs1 rs2 csr imm aq rl).trans (fillR9 A l b 39 rd rs1 rs2 csr imm aq rl hl rfl)
  | 39, _ => (fill39 nxV tlV emV okL regN regB csrN csrB numN numB liT liN liB A l b rd rs1 rs2 csr imm aq rl).trans (fillR9 A l b 40 rd rs1 rs2 csr imm aq rl hl rfl)
  | 40, _ => (fill40 nxV tlV emV okL regN regB csrN csrB numN numB liT liN liB A l b rd rs1 rs2 csr imm aq rl).trans (fillR9 A l b 41 rd rs1 rs2 csr imm aq rl hl rfl)
  | 41, _ => (fill41 nxV tlV emV okL regN regB csrN csrB numN numB liT liN liB A l b rd rs1 rs2 csr imm aq rl).trans (fillR9 A l b 42 rd rs1 rs2 csr imm aq rl hl rfl)
  | 42, _ => (fill42 nxV tlV emV okL regN regB csrN csrB numN numB liT liN liB A l b rd rs1 rs2 csr imm aq rl).trans (fillR9 A l b 43 rd rs1 rs2 csr imm aq rl hl rfl)
  | 43, _ => (fill43 nxV tlV emV okL regN regB csrN csrB numN numB liT liN liB A l b rd rs1 rs2 csr imm aq rl).trans (fillR10 A l b 44 rd rs1 rs2 csr imm aq rl hl rfl)
  | 44, _ => (fill44 nxV tlV emV okL regN regB csrN csrB numN numB liT liN liB A l b rd rs1 rs2 csr imm aq rl).trans (fillR11 A l b 45 rd rs1 rs2 csr imm aq rl hl rfl)
  | 45, _ => (fill45 nxV tlV emV okL regN regB csrN csrB numN numB liT liN liB A l b rd rs1 rs2 csr imm aq rl).trans (fillR11 A l b 46 rd rs1 rs2 csr imm aq rl hl rfl)
  | 46, _ => (fill46 nxV tlV emV okL regN regB csrN csrB numN numB liT liN liB A l b rd rs1 rs2 csr imm aq rl).trans (fillR11 A l b 47 rd rs1 rs2 csr imm aq rl hl rfl)
  | 47, _ => (fill47 nxV tlV emV okL regN regB csrN csrB numN numB liT liN liB A l b rd rs1 rs2 csr imm aq rl).trans (fillR12 A l b 48 rd rs1 rs2 csr imm aq rl hl rfl)
  | 48, _ => (fill48 nxV tlV emV okL regN regB csrN csrB numN numB liT liN liB A l b rd rs1 rs2 csr imm aq rl).trans (fillR12 A l b 49 rd rs1 rs2 csr imm aq rl hl rfl)
  | 49, _ => (fill49 nxV tlV emV okL regN regB csrN csrB numN numB liT liN liB A l b rd rs1 rs2 csr imm aq rl).trans (fillR12 A l b 50 rd rs1 rs2 csr imm aq rl hl rfl)
  | 50, _ => (fill50 nxV tlV emV okL regN regB csrN csrB numN numB liT liN liB A l b rd rs1 rs2 csr imm aq rl).trans (fillR7 A l b 51 rd rs1 rs2 csr imm aq rl hl rfl)
  | 51, _ => (fill51 nxV tlV emV okL regN regB csrN csrB numN numB liT liN liB A l b rd rs1 rs2 csr imm aq rl).trans (fillR7 A l b 52 rd rs1 rs2 csr imm aq rl hl rfl)
  | 52, _ => (fill52 nxV tlV emV okL regN regB csrN csrB numN numB liT liN liB A l b rd rs1 rs2 csr imm aq rl).trans (fillR7 A l b 53 rd rs1 rs2 csr imm aq rl hl rfl)
  | 53, _ => (fill53 nxV tlV emV okL regN regB csrN csrB numN numB liT liN liB A l b rd rs1 rs2 csr imm aq rl).trans (fillR7 A l b 54 rd rs1 rs2 csr imm aq rl hl rfl)
  | 54, _ => (fill54 nxV tlV emV okL regN regB csrN csrB numN numB liT liN liB A l b rd rs1 rs2 csr imm aq rl).trans (fillR7 A l b 55 rd rs1 rs2 csr imm aq rl hl rfl)
  | 55, _ => (fill55 nxV tlV emV okL regN regB csrN csrB numN numB liT liN liB A l b rd rs1 rs2 csr imm aq rl).trans (fillR7 A l b 56 rd rs1 rs2 csr imm aq rl hl rfl)
  | 56, _ => (fill56 nxV tlV emV okL regN regB csrN csrB numN numB liT liN liB A l b rd rs1 rs2 csr imm aq rl).trans (fillR7 A l b 57 rd rs1 rs2 csr imm aq rl hl rfl)
  | 57, _ => (fill57 nxV tlV emV okL regN regB csrN csrB numN numB liT liN liB A l b rd rs1 rs2 csr imm aq rl).trans (fillR7 A l b 58 rd rs1 rs2 csr imm aq rl hl rfl)
  | 58, _ => (fill58 nxV tlV emV okL regN regB csrN csrB numN numB liT liN liB A l b rd rs1 rs2 csr imm aq rl).trans (fillR13 A l b 59 rd rs1 rs2 csr imm aq rl hl rfl)
  | 59, _ => (fill59 nxV tlV emV okL regN regB csrN csrB numN numB liT liN liB A l b rd rs1 rs2 csr imm aq rl).trans (fillR14 A l b 60 rd rs1 rs2 csr imm aq rl hl rfl)
  | 60, _ => (fill60 nxV tlV emV okL regN regB csrN csrB numN numB liT liN liB A l b rd rs1 rs2 csr imm aq rl).trans (fillR14 A l b 61 rd rs1 rs2 csr imm aq rl hl rfl)
  | 61, _ => (fill61 nxV tlV emV okL regN regB csrN csrB numN numB liT liN liB A l b rd rs1 rs2 csr imm aq rl).trans (fillR14 A l b 62 rd rs1 rs2 csr imm aq rl hl rfl)
  | 62, _ => (fill62 nxV tlV emV okL regN regB csrN csrB numN numB liT liN liB A l b rd rs1 rs2 csr imm aq rl).trans (fillR14 A l b 63 rd rs1 rs2 csr imm aq rl hl rfl)
  | 63, _ => (fill63 nxV tlV emV okL regN regB csrN csrB numN numB liT liN liB A l b rd rs1 rs2 csr imm aq rl).trans (fillR14 A l b 64 rd rs1 rs2 csr imm aq rl hl rfl)
  | 64, _ => (fill64 nxV tlV emV okL regN regB csrN csrB numN numB liT liN liB A l b rd rs1 rs2 csr imm aq rl).trans (fillR14 A l b 65 rd rs1 rs2 csr imm aq rl hl rfl)
  | 65, _ => (fill65 nxV tlV emV okL regN regB csrN csrB numN numB liT liN liB A l b rd rs1 rs2 csr imm aq rl).trans (fillR14 A l b 66 rd rs1 rs2 csr imm aq rl hl rfl)
  | 66, _ => (fill66 nxV tlV emV okL regN regB csrN csrB numN numB liT liN liB A l b rd rs1 rs2 csr imm aq rl).trans (fillR14 A l b 67 rd rs1 rs2 csr imm aq rl hl rfl)
  | 67, _ => (fill67 nxV tlV emV okL regN regB csrN csrB numN numB liT liN liB A l b rd rs1 rs2 csr imm aq rl).trans (fillR14 A l b 68 rd rs1 rs2 csr imm aq rl hl rfl)
  | 68, _ => (fill68 nxV tlV emV okL regN regB csrN csrB numN numB liT liN liB A l b rd rs1 rs2 csr imm aq rl).trans (fillR14 A l b 69 rd rs1 rs2 csr imm aq rl hl rfl)
  | n + 69, h => absurd h (by omega)
def fgV (l : Value) (i : Inst) : Bool := okL l && isOp i.op
theorem fillCall {lo : Nat} {l : Value} {i : Inst} (h : (Nat.beq lo 0 && fgV l i) = true) (A : Option Blk) (b : Bool) : CallOK Tryz.prog lo 41 [rp, .pointer (some ⟨1, 0, none⟩)] [A, some ⟨instC i, 24, none⟩, some ⟨[l, .bool b], 80, none⟩] (.tuple #[]) [A, some ⟨instC (fiV l i), 24, none⟩, some ⟨[flV l i, .bool (b || fbV l i)], 80, none⟩] := by
  obtain ⟨h0, h1⟩ := lo0 h
  subst h0
  clear h
  obtain ⟨op, rd, rs1, rs2, csr, imm, aq, rl⟩ := i
  unfold fgV at h1
  rw [Bool.and_eq_true] at h1
  obtain ⟨hl, ho⟩ := h1
  exact ops (p := fun op => CallOK Tryz.prog 0 41 [rp, .pointer (some ⟨1, 0, none⟩)] [A, some ⟨instC ⟨op, rd, rs1, rs2, csr, imm, aq, rl⟩, 24, none⟩, some ⟨[l, .bool b], 80, none⟩] (.tuple #[]) [A, some ⟨instC (fiV l ⟨op, rd, rs1, rs2, csr, imm, aq, rl⟩), 24, none⟩, some ⟨[flV l ⟨op, rd, rs1, rs2, csr, imm, aq, rl⟩, .bool (b || fbV l ⟨op, rd, rs1, rs2, csr, imm, aq, rl⟩)], 80, none⟩]) (fun k hk => call_vh fillΦ_ok (fillAll A l b rd rs1 rs2 csr imm aq rl hl k hk)) ho
end Go.Proofs.YtgkicojmgokinaaGreatDoor.Ab
