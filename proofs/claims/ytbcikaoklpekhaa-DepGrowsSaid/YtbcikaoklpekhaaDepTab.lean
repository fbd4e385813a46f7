/- isa.Kind, isa.Uses, alu.Size of every op. Written by gen_tab.py. -/
import Derived.Test.YtbcikaoklpekhaaDepDecode
namespace Go.Proofs.Ytbcikaoklpekhaa.Ab
open Go Go.RowKit
set_option linter.unusedVariables false
set_option linter.unusedSimpArgs false
set_option maxRecDepth 100000
noncomputable def rowsΦ : Oracle := fun lo f args H => match f with
  | 33 => match args with
    | [] => some [(true, gs 7 litCells 69, H)]
    | _ => none
  | _ => none
theorem rowsΦ_ok : CtxOK Try.prog (ctx rowsΦ) := ctxOK fun lo f args H l v H' h hm => by
  unfold rowsΦ at h
  split at h
  · split at h
    · cases h
      simp only [List.mem_cons, List.not_mem_nil, or_false, Prod.mk.injEq] at hm
      obtain ⟨hc, rfl, rfl⟩ := hm
      exact ⟨rowsOK.call (fun a h => by cases h) lo H', rfl⟩
    · cases h
  · cases h
def rowOf (op : Int) : Row := rowAt (op - 1).toNat
def kindF (op : Int) : Int := (rowOf op).kind
def rdF (op : Int) : Bool := !([3, 4, 7, 8, 9].contains (rowOf op).form)
def rs1F (op : Int) : Bool := !([0, 1, 7, 8, 11].contains (rowOf op).form)
def rs2F (op : Int) : Bool := [3, 4, 6, 9, 13].contains (rowOf op).form
def immB (op : Int) : Bool := [0, 1, 2, 3, 4, 5, 7, 11].contains (rowOf op).form
def sizeF (op : Int) : Int := if [11, 14, 16].contains op then 1 else if [12, 15, 17].contains op then 2 else if [13, 18, 59].contains op then 4 else if kindF op == 6 then 4 else 0
theorem kind1 : callK (ctx rowsΦ) 20 0 26 [.int .i64 1] [] (fun v _ => some v) = some (.int .i64 (kindF 1)) := by kernel_rfl
theorem uses1 : callK (ctx rowsΦ) 20 0 30 [.int .i64 1] [] (fun v _ => some v) = some (.tuple ⟨[.bool (rdF 1), .bool (rs1F 1), .bool (rs2F 1), .bool (immB 1)]⟩) := by kernel_rfl
theorem size1 : callK (ctx rowsΦ) 20 0 37 [.int .i64 1] [] (fun v _ => some v) = some (.int .i64 (sizeF 1)) := by kernel_rfl
theorem kind2 : callK (ctx rowsΦ) 20 0 26 [.int .i64 2] [] (fun v _ => some v) = some (.int .i64 (kindF 2)) := by kernel_rfl
theorem uses2 : callK (ctx rowsΦ) 20 0 30 [.int .i64 2] [] (fun v _ => some v) = some (.tuple ⟨[.bool (rdF 2), .bool (rs1F 2), .bool (rs2F 2), .bool (immB 2)]⟩) := by kernel_rfl
theorem size2 : callK (ctx rowsΦ) 20 0 37 [.int .i64 2] [] (fun v _ => some v) = some (.int .i64 (sizeF 2)) := by kernel_rfl
theorem kind3 : callK (ctx rowsΦ) 20 0 26 [.int .i64 3] [] (fun v _ => some v) = some (.int .i64 (kindF 3)) := by kernel_rfl
theorem uses3 : callK (ctx rowsΦ) 20 0 30 [.int .i64 3] [] (fun v _ => some v) = some (.tuple ⟨[.bool (rdF 3), .bool (rs1F 3), .bool (rs2F 3), .bool (immB 3)]⟩) := by kernel_rfl
theorem size3 : callK (ctx rowsΦ) 20 0 37 [.int .i64 3] [] (fun v _ => some v) = some (.int .i64 (sizeF 3)) := by kernel_rfl
theorem kind4 : callK (ctx rowsΦ) 20 0 26 [.int .i64 4] [] (fun v _ => some v) = some (.int .i64 (kindF 4)) := by kernel_rfl
theorem uses4 : callK (ctx rowsΦ) 20 0 30 [.int .i64 4] [] (fun v _ => some v) = some (.tuple ⟨[.bool (rdF 4), .bool (rs1F 4), .bool (rs2F 4), .bool (immB 4)]⟩) := by kernel_rfl
theorem size4 : callK (ctx rowsΦ) 20 0 37 [.int .i64 4] [] (fun v _ => some v) = some (.int .i64 (sizeF 4)) := by kernel_rfl
theorem kind5 : callK (ctx rowsΦ) 20 0 26 [.int .i64 5] [] (fun v _ => some v) = some (.int .i64 (kindF 5)) := by kernel_rfl
theorem uses5 : callK (ctx rowsΦ) 20 0 30 [.int .i64 5] [] (fun v _ => some v) = some (.tuple ⟨[.bool (rdF 5), .bool (rs1F 5), .bool (rs2F 5), .bool (immB 5)]⟩) := by kernel_rfl
theorem size5 : callK (ctx rowsΦ) 20 0 37 [.int .i64 5] [] (fun v _ => some v) = some (.int .i64 (sizeF 5)) := by kernel_rfl
theorem kind6 : callK (ctx rowsΦ) 20 0 26 [.int .i64 6] [] (fun v _ => some v) = some (.int .i64 (kindF 6)) := by kernel_rfl
theorem uses6 : callK (ctx rowsΦ) 20 0 30 [.int .i64 6] [] (fun v _ => some v) = some (.tuple ⟨[.bool (rdF 6), .bool (rs1F 6), .bool (rs2F 6), .bool (immB 6)]⟩) := by kernel_rfl
theorem size6 : callK (ctx rowsΦ) 20 0 37 [.int .i64 6] [] (fun v _ => some v) = some (.int .i64 (sizeF 6)) := by kernel_rfl
theorem kind7 : callK (ctx rowsΦ) 20 0 26 [.int .i64 7] [] (fun v _ => some v) = some (.int .i64 (kindF 7)) := by kernel_rfl
theorem uses7 : callK (ctx rowsΦ) 20 0 30 [.int .i64 7] [] (fun v _ => some v) = some (.tuple ⟨[.bool (rdF 7), .bool (rs1F 7), .bool (rs2F 7), .bool (immB 7)]⟩) := by kernel_rfl
theorem size7 : callK (ctx rowsΦ) 20 0 37 [.int .i64 7] [] (fun v _ => some v) = some (.int .i64 (sizeF 7)) := by kernel_rfl
theorem kind8 : callK (ctx rowsΦ) 20 0 26 [.int .i64 8] [] (fun v _ => some v) = some (.int .i64 (kindF 8)) := by kernel_rfl
theorem uses8 : callK (ctx rowsΦ) 20 0 30 [.int .i64 8] [] (fun v _ => some v) = some (.tuple ⟨[.bool (rdF 8), .bool (rs1F 8), .bool (rs2F 8), .bool (immB 8)]⟩) := by kernel_rfl
theorem size8 : callK (ctx rowsΦ) 20 0 37 [.int .i64 8] [] (fun v _ => some v) = some (.int .i64 (sizeF 8)) := by kernel_rfl
theorem kind9 : callK (ctx rowsΦ) 20 0 26 [.int .i64 9] [] (fun v _ => some v) = some (.int .i64 (kindF 9)) := by kernel_rfl
theorem uses9 : callK (ctx rowsΦ) 20 0 30 [.int .i64 9] [] (fun v _ => some v) = some (.tuple ⟨[.bool (rdF 9), .bool (rs1F 9), .bool (rs2F 9), .bool (immB 9)]⟩) := by kernel_rfl
theorem size9 : callK (ctx rowsΦ) 20 0 37 [.int .i64 9] [] (fun v _ => some v) = some (.int .i64 (sizeF 9)) := by kernel_rfl
theorem kind10 : callK (ctx rowsΦ) 20 0 26 [.int .i64 10] [] (fun v _ => some v) = some (.int .i64 (kindF 10)) := by kernel_rfl
theorem uses10 : callK (ctx rowsΦ) 20 0 30 [.int .i64 10] [] (fun v _ => some v) = some (.tuple ⟨[.bool (rdF 10), .bool (rs1F 10), .bool (rs2F 10), .bool (immB 10)]⟩) := by kernel_rfl
theorem size10 : callK (ctx rowsΦ) 20 0 37 [.int .i64 10] [] (fun v _ => some v) = some (.int .i64 (sizeF 10)) := by kernel_rfl
theorem kind11 : callK (ctx rowsΦ) 20 0 26 [.int .i64 11] [] (fun v _ => some v) = some (.int .i64 (kindF 11)) := by kernel_rfl
theorem uses11 : callK (ctx rowsΦ) 20 0 30 [.int .i64 11] [] (fun v _ => some v) = some (.tuple ⟨[.bool (rdF 11), .bool (rs1F 11), .bool (rs2F 11), .bool (immB 11)]⟩) := by kernel_rfl
theorem size11 : callK (ctx rowsΦ) 20 0 37 [.int .i64 11] [] (fun v _ => some v) = some (.int .i64 (sizeF 11)) := by kernel_rfl
theorem kind12 : callK (ctx rowsΦ) 20 0 26 [.int .i64 12] [] (fun v _ => some v) = some (.int .i64 (kindF 12)) := by kernel_rfl
theorem uses12 : callK (ctx rowsΦ) 20 0 30 [.int .i64 12] [] (fun v _ => some v) = some (.tuple ⟨[.bool (rdF 12), .bool (rs1F 12), .bool (rs2F 12), .bool (immB 12)]⟩) := by kernel_rfl
theorem size12 : callK (ctx rowsΦ) 20 0 37 [.int .i64 12] [] (fun v _ => some v) = some (.int .i64 (sizeF 12)) := by kernel_rfl
theorem kind13 : callK (ctx rowsΦ) 20 0 26 [.int .i64 13] [] (fun v _ => some v) = some (.int .i64 (kindF 13)) := by kernel_rfl
theorem uses13 : callK (ctx rowsΦ) 20 0 30 [.int .i64 13] [] (fun v _ => some v) = some (.tuple ⟨[.bool (rdF 13), .bool (rs1F 13), .bool (rs2F 13), .bool (immB 13)]⟩) := by kernel_rfl
theorem size13 : callK (ctx rowsΦ) 20 0 37 [.int .i64 13] [] (fun v _ => some v) = some (.int .i64 (sizeF 13)) := by kernel_rfl
theorem kind14 : callK (ctx rowsΦ) 20 0 26 [.int .i64 14] [] (fun v _ => some v) = some (.int .i64 (kindF 14)) := by kernel_rfl
theorem uses14 : callK (ctx rowsΦ) 20 0 30 [.int .i64 14] [] (fun v _ => some v) = some (.tuple ⟨[.bool (rdF 14), .bool (rs1F 14), .bool (rs2F 14), .bool (immB 14)]⟩) := by kernel_rfl
theorem size14 : callK (ctx rowsΦ) 20 0 37 [.int .i64 14] [] (fun v _ => some v) = some (.int .i64 (sizeF 14)) := by kernel_rfl
theorem kind15 : callK (ctx rowsΦ) 20 0 26 [.int .i64 15] [] (fun v _ => some v) = some (.int .i64 (kindF 15)) := by kernel_rfl
theorem uses15 : callK (ctx rowsΦ) 20 0 30 [.int .i64 15] [] (fun v _ => some v) = some (.tuple ⟨[.bool (rdF 15), .bool (rs1F 15), .bool (rs2F 15), .bool (immB 15)]⟩) := by kernel_rfl
theorem size15 : callK (ctx rowsΦ) 20 0 37 [.int .i64 15] [] (fun v _ => some v) = some (.int .i64 (sizeF 15)) := by kernel_rfl
theorem kind16 : callK (ctx rowsΦ) 20 0 26 [.int .i64 16] [] (fun v _ => some v) = some (.int .i64 (kindF 16)) := by kernel_rfl
theorem uses16 : callK (ctx rowsΦ) 20 0 30 [.int .i64 16] [] (fun v _ => some v) = some (.tuple ⟨[.bool (rdF 16), .bool (rs1F 16), .bool (rs2F 16), .bool (immB 16)]⟩) := by kernel_rfl
theorem size16 : callK (ctx rowsΦ) 20 0 37 [.int .i64 16] [] (fun v _ => some v) = some (.int .i64 (sizeF 16)) := by kernel_rfl
theorem kind17 : callK (ctx rowsΦ) 20 0 26 [.int .i64 17] [] (fun v _ => some v) = some (.int .i64 (kindF 17)) := by kernel_rfl
theorem uses17 : callK (ctx rowsΦ) 20 0 30 [.int .i64 17] [] (fun v _ => some v) = some (.tuple ⟨[.bool (rdF 17), .bool (rs1F 17), .bool (rs2F 17), .bool (immB 17)]⟩) := by kernel_rfl
theorem size17 : callK (ctx rowsΦ) 20 0 37 [.int .i64 17] [] (fun v _ => some v) = some (.int .i64 (sizeF 17)) := by kernel_rfl
theorem kind18 : callK (ctx rowsΦ) 20 0 26 [.int .i64 18] [] (fun v _ => some v) = some (.int .i64 (kindF 18)) := by kernel_rfl
theorem uses18 : callK (ctx rowsΦ) 20 0 30 [.int .i64 18] [] (fun v _ => some v) = some (.tuple ⟨[.bool (rdF 18), .bool (rs1F 18), .bool (rs2F 18), .bool (immB 18)]⟩) := by kernel_rfl
theorem size18 : callK (ctx rowsΦ) 20 0 37 [.int .i64 18] [] (fun v _ => some v) = some (.int .i64 (sizeF 18)) := by kernel_rfl
theorem kind19 : callK (ctx rowsΦ) 20 0 26 [.int .i64 19] [] (fun v _ => some v) = some (.int .i64 (kindF 19)) := by kernel_rfl
theorem uses19 : callK (ctx rowsΦ) 20 0 30 [.int .i64 19] [] (fun v _ => some v) = some (.tuple ⟨[.bool (rdF 19), .bool (rs1F 19), .bool (rs2F 19), .bool (immB 19)]⟩) := by kernel_rfl
theorem size19 : callK (ctx rowsΦ) 20 0 37 [.int .i64 19] [] (fun v _ => some v) = some (.int .i64 (sizeF 19)) := by kernel_rfl
theorem kind20 : callK (ctx rowsΦ) 20 0 26 [.int .i64 20] [] (fun v _ => some v) = some (.int .i64 (kindF 20)) := by kernel_rfl
theorem uses20 : callK (ctx rowsΦ) 20 0 30 [.int .i64 20] [] (fun v _ => some v) = some (.tuple ⟨[.bool (rdF 20), .bool (rs1F 20), .bool (rs2F 20), .bool (immB 20)]⟩) := by kernel_rfl
theorem size20 : callK (ctx rowsΦ) 20 0 37 [.int .i64 20] [] (fun v _ => some v) = some (.int .i64 (sizeF 20)) := by kernel_rfl
theorem kind21 : callK (ctx rowsΦ) 20 0 26 [.int .i64 21] [] (fun v _ => some v) = some (.int .i64 (kindF 21)) := by kernel_rfl
theorem uses21 : callK (ctx rowsΦ) 20 0 30 [.int .i64 21] [] (fun v _ => some v) = some (.tuple ⟨[.bool (rdF 21), .bool (rs1F 21), .bool (rs2F 21), .bool (immB 21)]⟩) := by kernel_rfl
theorem size21 : callK (ctx rowsΦ) 20 0 37 [.int .i64 21] [] (fun v _ => some v) = some (.int .i64 (sizeF 21)) := by kernel_rfl
theorem kind22 : callK (ctx rowsΦ) 20 0 26 [.int .i64 22] [] (fun v _ => some v) = some (.int .i64 (kindF 22)) := by kernel_rfl
theorem uses22 : callK (ctx rowsΦ) 20 0 30 [.int .i64 22] [] (fun v _ => some v) = some (.tuple ⟨[.bool (rdF 22), .bool (rs1F 22), .bool (rs2F 22), .bool (immB 22)]⟩) := by kernel_rfl
theorem size22 : callK (ctx rowsΦ) 20 0 37 [.int .i64 22] [] (fun v _ => some v) = some (.int .i64 (sizeF 22)) := by kernel_rfl
theorem kind23 : callK (ctx rowsΦ) 20 0 26 [.int .i64 23] [] (fun v _ => some v) = some (.int .i64 (kindF 23)) := by kernel_rfl
theorem uses23 : callK (ctx rowsΦ) 20 0 30 [.int .i64 23] [] (fun v _ => some v) = some (.tuple ⟨[.bool (rdF 23), .bool (rs1F 23), .bool (rs2F 23), .bool (immB 23)]⟩) := by kernel_rfl
theorem size23 : callK (ctx rowsΦ) 20 0 37 [.int .i64 23] [] (fun v _ => some v) = some (.int .i64 (sizeF 23)) := by kernel_rfl
theorem kind24 : callK (ctx rowsΦ) 20 0 26 [.int .i64 24] [] (fun v _ => some v) = some (.int .i64 (kindF 24)) := by kernel_rfl
theorem uses24 : callK (ctx rowsΦ) 20 0 30 [.int .i64 24] [] (fun v _ => some v) = some (.tuple ⟨[.bool (rdF 24), .bool (rs1F 24), .bool (rs2F 24), .bool (immB 24)]⟩) := by kernel_rfl
theorem size24 : callK (ctx rowsΦ) 20 0 37 [.int .i64 24] [] (fun v _ => some v) = some (.int .i64 (sizeF 24)) := by kernel_rfl
theorem kind25 : callK (ctx rowsΦ) 20 0 26 [.int .i64 25] [] (fun v _ => some v) = some (.int .i64 (kindF 25)) := by kernel_rfl
theorem uses25 : callK (ctx rowsΦ) 20 0 30 [.int .i64 25] [] (fun v _ => some v) = some (.tuple ⟨[.bool (rdF 25), .bool (rs1F 25), .bool (rs2F 25), .bool (immB 25)]⟩) := by kernel_rfl
theorem size25 : callK (ctx rowsΦ) 20 0 37 [.int .i64 25] [] (fun v _ => some v) = some (.int .i64 (sizeF 25)) := by kernel_rfl
theorem kind26 : callK (ctx rowsΦ) 20 0 26 [.int .i64 26] [] (fun v _ => some v) = some (.int .i64 (kindF 26)) := by kernel_rfl
theorem uses26 : callK (ctx rowsΦ) 20 0 30 [.int .i64 26] [] (fun v _ => some v) = some (.tuple ⟨[.bool (rdF 26), .bool (rs1F 26), .bool (rs2F 26), .bool (immB 26)]⟩) := by kernel_rfl
theorem size26 : callK (ctx rowsΦ) 20 0 37 [.int .i64 26] [] (fun v _ => some v) = some (.int .i64 (sizeF 26)) := by kernel_rfl
theorem kind27 : callK (ctx rowsΦ) 20 0 26 [.int .i64 27] [] (fun v _ => some v) = some (.int .i64 (kindF 27)) := by kernel_rfl
theorem uses27 : callK (ctx rowsΦ) 20 0 30 [.int .i64 27] [] (fun v _ => some v) = some (.tuple ⟨[.bool (rdF 27), .bool (rs1F 27), .bool (rs2F 27), .bool (immB 27)]⟩) := by kernel_rfl
theorem size27 : callK (ctx rowsΦ) 20 0 37 [.int .i64 27] [] (fun v _ => some v) = some (.int .i64 (sizeF 27)) := by kernel_rfl
theorem kind28 : callK (ctx rowsΦ) 20 0 26 [.int .i64 28] [] (fun v _ => some v) = some (.int .i64 (kindF 28)) := by kernel_rfl
theorem uses28 : callK (ctx rowsΦ) 20 0 30 [.int .i64 28] [] (fun v _ => some v) = some (.tuple ⟨[.bool (rdF 28), .bool (rs1F 28), .bool (rs2F 28), .bool (immB 28)]⟩) := by kernel_rfl
theorem size28 : callK (ctx rowsΦ) 20 0 37 [.int .i64 28] [] (fun v _ => some v) = some (.int .i64 (sizeF 28)) := by kernel_rfl
theorem kind29 : callK (ctx rowsΦ) 20 0 26 [.int .i64 29] [] (fun v _ => some v) = some (.int .i64 (kindF 29)) := by kernel_rfl
theorem uses29 : callK (ctx rowsΦ) 20 0 30 [.int .i64 29] [] (fun v _ => some v) = some (.tuple ⟨[.bool (rdF 29), .bool (rs1F 29), .bool (rs2F 29), .bool (immB 29)]⟩) := by kernel_rfl
theorem size29 : callK (ctx rowsΦ) 20 0 37 [.int .i64 29] [] (fun v _ => some v) = some (.int .i64 (sizeF 29)) := by kernel_rfl
theorem kind30 : callK (ctx rowsΦ) 20 0 26 [.int .i64 30] [] (fun v _ => some v) = some (.int .i64 (kindF 30)) := by kernel_rfl
theorem uses30 : callK (ctx rowsΦ) 20 0 30 [.int .i64 30] [] (fun v _ => some v) = some (.tuple ⟨[.bool (rdF 30), .bool (rs1F 30), .bool (rs2F 30), .bool (immB 30)]⟩) := by kernel_rfl
theorem size30 : callK (ctx rowsΦ) 20 0 37 [.int .i64 30] [] (fun v _ => some v) = some (.int .i64 (sizeF 30)) := by kernel_rfl
theorem kind31 : callK (ctx rowsΦ) 20 0 26 [.int .i64 31] [] (fun v _ => some v) = some (.int .i64 (kindF 31)) := by kernel_rfl
theorem uses31 : callK (ctx rowsΦ) 20 0 30 [.int .i64 31] [] (fun v _ => some v) = some (.tuple ⟨[.bool (rdF 31), .bool (rs1F 31), .bool (rs2F 31), .bool (immB 31)]⟩) := by kernel_rfl
theorem size31 : callK (ctx rowsΦ) 20 0 37 [.int .i64 31] [] (fun v _ => some v) = some (.int .i64 (sizeF 31)) := by kernel_rfl
theorem kind32 : callK (ctx rowsΦ) 20 0 26 [.int .i64 32] [] (fun v _ => some v) = some (.int .i64 (kindF 32)) := by kernel_rfl
theorem uses32 : callK (ctx rowsΦ) 20 0 30 [.int .i64 32] [] (fun v _ => some v) = some (.tuple ⟨[.bool (rdF 32), .bool (rs1F 32), .bool (rs2F 32), .bool (immB 32)]⟩) := by kernel_rfl
theorem size32 : callK (ctx rowsΦ) 20 0 37 [.int .i64 32] [] (fun v _ => some v) = some (.int .i64 (sizeF 32)) := by kernel_rfl
theorem kind33 : callK (ctx rowsΦ) 20 0 26 [.int .i64 33] [] (fun v _ => some v) = some (.int .i64 (kindF 33)) := by kernel_rfl
theorem uses33 : callK (ctx rowsΦ) 20 0 30 [.int .i64 33] [] (fun v _ => some v) = some (.tuple ⟨[.bool (rdF 33), .bool (rs1F 33), .bool (rs2F 33), .bool (immB 33)]⟩) := by kernel_rfl
theorem size33 : callK (ctx rowsΦ) 20 0 37 [.int .i64 33] [] (fun v _ => some v) = some (.int .i64 (sizeF 33)) := by kernel_rfl
theorem kind34 : callK (ctx rowsΦ) 20 0 26 [.int .i64 34] [] (fun v _ => some v) = some (.int .i64 (kindF 34)) := by kernel_rfl
theorem uses34 : callK (ctx rowsΦ) 20 0 30 [.int .i64 34] [] (fun v _ => some v) = some (.tuple ⟨[.bool (rdF 34), .bool (rs1F 34), .bool (rs2F 34), .bool (immB 34)]⟩) := by kernel_rfl
theorem size34 : callK (ctx rowsΦ) 20 0 37 [.int .i64 34] [] (fun v _ => some v) = some (.int .i64 (sizeF 34)) := by kernel_rfl
theorem kind35 : callK (ctx rowsΦ) 20 0 26 [.int .i64 35] [] (fun v _ => some v) = some (.int .i64 (kindF 35)) := by kernel_rfl
theorem uses35 : callK (ctx rowsΦ) 20 0 30 [.int .i64 35] [] (fun v _ => some v) = some (.tuple ⟨[.bool (rdF 35), .bool (rs1F 35), .bool (rs2F 35), .bool (immB 35)]⟩) := by kernel_rfl
theorem size35 : callK (ctx rowsΦ) 20 0 37 [.int .i64 35] [] (fun v _ => some v) = some (.int .i64 (sizeF 35)) := by kernel_rfl
theorem kind36 : callK (ctx rowsΦ) 20 0 26 [.int .i64 36] [] (fun v _ => some v) = some (.int .i64 (kindF 36)) := by kernel_rfl
theorem uses36 : callK (ctx rowsΦ) 20 0 30 [.int .i64 36] [] (fun v _ => some v) = some (.tuple ⟨[.bool (rdF 36), .bool (rs1F 36), .bool (rs2F 36), .bool (immB 36)]⟩) := by kernel_rfl
theorem size36 : callK (ctx rowsΦ) 20 0 37 [.int .i64 36] [] (fun v _ => some v) = some (.int .i64 (sizeF 36)) := by kernel_rfl
theorem kind37 : callK (ctx rowsΦ) 20 0 26 [.int .i64 37] [] (fun v _ => some v) = some (.int .i64 (kindF 37)) := by kernel_rfl
theorem uses37 : callK (ctx rowsΦ) 20 0 30 [.int .i64 37] [] (fun v _ => some v) = some (.tuple ⟨[.bool (rdF 37), .bool (rs1F 37), .bool (rs2F 37), .bool (immB 37)]⟩) := by kernel_rfl
theorem size37 : callK (ctx rowsΦ) 20 0 37 [.int .i64 37] [] (fun v _ => some v) = some (.int .i64 (sizeF 37)) := by kernel_rfl
theorem kind38 : callK (ctx rowsΦ) 20 0 26 [.int .i64 38] [] (fun v _ => some v) = some (.int .i64 (kindF 38)) := by kernel_rfl
theorem uses38 : callK (ctx rowsΦ) 20 0 30 [.int .i64 38] [] (fun v _ => some v) = some (.tuple ⟨[.bool (rdF 38), .bool (rs1F 38), .bool (rs2F 38), .bool (immB 38)]⟩) := by kernel_rfl
theorem size38 : callK (ctx rowsΦ) 20 0 37 [.int .i64 38] [] (fun v _ => some v) = some (.int .i64 (sizeF 38)) := by kernel_rfl
theorem kind39 : callK (ctx rowsΦ) 20 0 26 [.int .i64 39] [] (fun v _ => some v) = some (.int .i64 (kindF 39)) := by kernel_rfl
theorem uses39 : callK (ctx rowsΦ) 20 0 30 [.int .i64 39] [] (fun v _ => some v) = some (.tuple ⟨[.bool (rdF 39), .bool (rs1F 39), .bool (rs2F 39), .bool (immB 39)]⟩) := by kernel_rfl
theorem size39 : callK (ctx rowsΦ) 20 0 37 [.int .i64 39] [] (fun v _ => some v) = some (.int .i64 (sizeF 39)) := by kernel_rfl
theorem kind40 : callK (ctx rowsΦ) 20 0 26 [.int .i64 40] [] (fun v _ => some v) = some (.int .i64 (kindF 40)) := by kernel_rfl
theorem uses40 : callK (ctx rowsΦ) 20 0 30 [.int .i64 40] [] (fun v _ => some v) = some (.tuple ⟨[.bool (rdF 40), .bool (rs1F 40), .bool (rs2F 40), .bool (immB 40)]⟩) := by kernel_rfl
theorem size40 : callK (ctx rowsΦ) 20 0 37 [.int .i64 40] [] (fun v _ => some v) = some (.int .i64 (sizeF 40)) := by kernel_rfl
theorem kind41 : callK (ctx rowsΦ) 20 0 26 [.int .i64 41] [] (fun v _ => some v) = some (.int .i64 (kindF 41)) := by kernel_rfl
theorem uses41 : callK (ctx rowsΦ) 20 0 30 [.int .i64 41] [] (fun v _ => some v) = some (.tuple ⟨[.bool (rdF 41), .bool (rs1F 41), .bool (rs2F 41), .bool (immB 41)]⟩) := by kernel_rfl
theorem size41 : callK (ctx rowsΦ) 20 0 37 [.int .i64 41] [] (fun v _ => some v) = some (.int .i64 (sizeF 41)) := by kernel_rfl
theorem kind42 : callK (ctx rowsΦ) 20 0 26 [.int .i64 42] [] (fun v _ => some v) = some (.int .i64 (kindF 42)) := by kernel_rfl
theorem uses42 : callK (ctx rowsΦ) 20 0 30 [.int .i64 42] [] (fun v _ => some v) = some (.tuple ⟨[.bool (rdF 42), .bool (rs1F 42), .bool (rs2F 42), .bool (immB 42)]⟩) := by kernel_rfl
theorem size42 : callK (ctx rowsΦ) 20 0 37 [.int .i64 42] [] (fun v _ => some v) = some (.int .i64 (sizeF 42)) := by kernel_rfl
theorem kind43 : callK (ctx rowsΦ) 20 0 26 [.int .i64 43] [] (fun v _ => some v) = some (.int .i64 (kindF 43)) := by kernel_rfl
theorem uses43 : callK (ctx rowsΦ) 20 0 30 [.int .i64 43] [] (fun v _ => some v) = some (.tuple ⟨[.bool (rdF 43), .bool (rs1F 43), .bool (rs2F 43), .bool (immB 43)]⟩) := by kernel_rfl
theorem size43 : callK (ctx rowsΦ) 20 0 37 [.int .i64 43] [] (fun v _ => some v) = some (.int .i64 (sizeF 43)) := by kernel_rfl
theorem kind44 : callK (ctx rowsΦ) 20 0 26 [.int .i64 44] [] (fun v _ => some v) = some (.int .i64 (kindF 44)) := by kernel_rfl
theorem uses44 : callK (ctx rowsΦ) 20 0 30 [.int .i64 44] [] (fun v _ => some v) = some (.tuple ⟨[.bool (rdF 44), .bool (rs1F 44), .bool (rs2F 44), .bool (immB 44)]⟩) := by kernel_rfl
theorem size44 : callK (ctx rowsΦ) 20 0 37 [.int .i64 44] [] (fun v _ => some v) = some (.int .i64 (sizeF 44)) := by kernel_rfl
theorem kind45 : callK (ctx rowsΦ) 20 0 26 [.int .i64 45] [] (fun v _ => some v) = some (.int .i64 (kindF 45)) := by kernel_rfl
theorem uses45 : callK (ctx rowsΦ) 20 0 30 [.int .i64 45] [] (fun v _ => some v) = some (.tuple ⟨[.bool (rdF 45), .bool (rs1F 45), .bool (rs2F 45), .bool (immB 45)]⟩) := by kernel_rfl
theorem size45 : callK (ctx rowsΦ) 20 0 37 [.int .i64 45] [] (fun v _ => some v) = some (.int .i64 (sizeF 45)) := by kernel_rfl
theorem kind46 : callK (ctx rowsΦ) 20 0 26 [.int .i64 46] [] (fun v _ => some v) = some (.int .i64 (kindF 46)) := by kernel_rfl
theorem uses46 : callK (ctx rowsΦ) 20 0 30 [.int .i64 46] [] (fun v _ => some v) = some (.tuple ⟨[.bool (rdF 46), .bool (rs1F 46), .bool (rs2F 46), .bool (immB 46)]⟩) := by kernel_rfl
theorem size46 : callK (ctx rowsΦ) 20 0 37 [.int .i64 46] [] (fun v _ => some v) = some (.int .i64 (sizeF 46)) := by kernel_rfl
theorem kind47 : callK (ctx rowsΦ) 20 0 26 [.int .i64 47] [] (fun v _ => some v) = some (.int .i64 (kindF 47)) := by kernel_rfl
theorem uses47 : callK (ctx rowsΦ) 20 0 30 [.int .i64 47] [] (fun v _ => some v) = some (.tuple ⟨[.bool (rdF 47), .bool (rs1F 47), .bool (rs2F 47), .bool (immB 47)]⟩) := by kernel_rfl
theorem size47 : callK (ctx rowsΦ) 20 0 37 [.int .i64 47] [] (fun v _ => some v) = some (.int .i64 (sizeF 47)) := by kernel_rfl
theorem kind48 : callK (ctx rowsΦ) 20 0 26 [.int .i64 48] [] (fun v _ => some v) = some (.int .i64 (kindF 48)) := by kernel_rfl
theorem uses48 : callK (ctx rowsΦ) 20 0 30 [.int .i64 48] [] (fun v _ => some v) = some (.tuple ⟨[.bool (rdF 48), .bool (rs1F 48), .bool (rs2F 48), .bool (immB 48)]⟩) := by kernel_rfl
theorem size48 : callK (ctx rowsΦ) 20 0 37 [.int .i64 48] [] (fun v _ => some v) = some (.int .i64 (sizeF 48)) := by kernel_rfl
theorem kind49 : callK (ctx rowsΦ) 20 0 26 [.int .i64 49] [] (fun v _ => some v) = some (.int .i64 (kindF 49)) := by kernel_rfl
theorem uses49 : callK (ctx rowsΦ) 20 0 30 [.int .i64 49] [] (fun v _ => some v) = some (.tuple ⟨[.bool (rdF 49), .bool (rs1F 49), .bool (rs2F 49), .bool (immB 49)]⟩) := by kernel_rfl
theorem size49 : callK (ctx rowsΦ) 20 0 37 [.int .i64 49] [] (fun v _ => some v) = some (.int .i64 (sizeF 49)) := by kernel_rfl
theorem kind50 : callK (ctx rowsΦ) 20 0 26 [.int .i64 50] [] (fun v _ => some v) = some (.int .i64 (kindF 50)) := by kernel_rfl
theorem uses50 : callK (ctx rowsΦ) 20 0 30 [.int .i64 50] [] (fun v _ => some v) = some (.tuple ⟨[.bool (rdF 50), .bool (rs1F 50), .bool (rs2F 50), .bool (immB 50)]⟩) := by kernel_rfl
theorem size50 : callK (ctx rowsΦ) 20 0 37 [.int .i64 50] [] (fun v _ => some v) = some (.int .i64 (sizeF 50)) := by kernel_rfl
theorem kind51 : callK (ctx rowsΦ) 20 0 26 [.int .i64 51] [] (fun v _ => some v) = some (.int .i64 (kindF 51)) := by kernel_rfl
theorem uses51 : callK (ctx rowsΦ) 20 0 30 [.int .i64 51] [] (fun v _ => some v) = some (.tuple ⟨[.bool (rdF 51), .bool (rs1F 51), .bool (rs2F 51), .bool (immB 51)]⟩) := by kernel_rfl
theorem size51 : callK (ctx rowsΦ) 20 0 37 [.int .i64 51] [] (fun v _ => some v) = some (.int .i64 (sizeF 51)) := by kernel_rfl
theorem kind52 : callK (ctx rowsΦ) 20 0 26 [.int .i64 52] [] (fun v _ => some v) = some (.int .i64 (kindF 52)) := by kernel_rfl
theorem uses52 : callK (ctx rowsΦ) 20 0 30 [.int .i64 52] [] (fun v _ => some v) = some (.tuple ⟨[.bool (rdF 52), .bool (rs1F 52), .bool (rs2F 52), .bool (immB 52)]⟩) := by kernel_rfl
theorem size52 : callK (ctx rowsΦ) 20 0 37 [.int .i64 52] [] (fun v _ => some v) = some (.int .i64 (sizeF 52)) := by kernel_rfl
theorem kind53 : callK (ctx rowsΦ) 20 0 26 [.int .i64 53] [] (fun v _ => some v) = some (.int .i64 (kindF 53)) := by kernel_rfl
theorem uses53 : callK (ctx rowsΦ) 20 0 30 [.int .i64 53] [] (fun v _ => some v) = some (.tuple ⟨[.bool (rdF 53), .bool (rs1F 53), .bool (rs2F 53), .bool (immB 53)]⟩) := by kernel_rfl
theorem size53 : callK (ctx rowsΦ) 20 0 37 [.int .i64 53] [] (fun v _ => some v) = some (.int .i64 (sizeF 53)) := by kernel_rfl
theorem kind54 : callK (ctx rowsΦ) 20 0 26 [.int .i64 54] [] (fun v _ => some v) = some (.int .i64 (kindF 54)) := by kernel_rfl
theorem uses54 : callK (ctx rowsΦ) 20 0 30 [.int .i64 54] [] (fun v _ => some v) = some (.tuple ⟨[.bool (rdF 54), .bool (rs1F 54), .bool (rs2F 54), .bool (immB 54)]⟩) := by kernel_rfl
theorem size54 : callK (ctx rowsΦ) 20 0 37 [.int .i64 54] [] (fun v _ => some v) = some (.int .i64 (sizeF 54)) := by kernel_rfl
theorem kind55 : callK (ctx rowsΦ) 20 0 26 [.int .i64 55] [] (fun v _ => some v) = some (.int .i64 (kindF 55)) := by kernel_rfl
theorem uses55 : callK (ctx rowsΦ) 20 0 30 [.int .i64 55] [] (fun v _ => some v) = some (.tuple ⟨[.bool (rdF 55), .bool (rs1F 55), .bool (rs2F 55), .bool (immB 55)]⟩) := by kernel_rfl
theorem size55 : callK (ctx rowsΦ) 20 0 37 [.int .i64 55] [] (fun v _ => some v) = some (.int .i64 (sizeF 55)) := by kernel_rfl
theorem kind56 : callK (ctx rowsΦ) 20 0 26 [.int .i64 56] [] (fun v _ => some v) = some (.int .i64 (kindF 56)) := by kernel_rfl
theorem uses56 : callK (ctx rowsΦ) 20 0 30 [.int .i64 56] [] (fun v _ => some v) = some (.tuple ⟨[.bool (rdF 56), .bool (rs1F 56), .bool (rs2F 56), .bool (immB 56)]⟩) := by kernel_rfl
theorem size56 : callK (ctx rowsΦ) 20 0 37 [.int .i64 56] [] (fun v _ => some v) = some (.int .i64 (sizeF 56)) := by kernel_rfl
theorem kind57 : callK (ctx rowsΦ) 20 0 26 [.int .i64 57] [] (fun v _ => some v) = some (.int .i64 (kindF 57)) := by kernel_rfl
theorem uses57 : callK (ctx rowsΦ) 20 0 30 [.int .i64 57] [] (fun v _ => some v) = some (.tuple ⟨[.bool (rdF 57), .bool (rs1F 57), .bool (rs2F 57), .bool (immB 57)]⟩) := by kernel_rfl
theorem size57 : callK (ctx rowsΦ) 20 0 37 [.int .i64 57] [] (fun v _ => some v) = some (.int .i64 (sizeF 57)) := by kernel_rfl
theorem kind58 : callK (ctx rowsΦ) 20 0 26 [.int .i64 58] [] (fun v _ => some v) = some (.int .i64 (kindF 58)) := by kernel_rfl
theorem uses58 : callK (ctx rowsΦ) 20 0 30 [.int .i64 58] [] (fun v _ => some v) = some (.tuple ⟨[.bool (rdF 58), .bool (rs1F 58), .bool (rs2F 58), .bool (immB 58)]⟩) := by kernel_rfl
theorem size58 : callK (ctx rowsΦ) 20 0 37 [.int .i64 58] [] (fun v _ => some v) = some (.int .i64 (sizeF 58)) := by kernel_rfl
theorem kind59 : callK (ctx rowsΦ) 20 0 26 [.int .i64 59] [] (fun v _ => some v) = some (.int .i64 (kindF 59)) := by kernel_rfl
theorem uses59 : callK (ctx rowsΦ) 20 0 30 [.int .i64 59] [] (fun v _ => some v) = some (.tuple ⟨[.bool (rdF 59), .bool (rs1F 59), .bool (rs2F 59), .bool (immB 59)]⟩) := by kernel_rfl
theorem size59 : callK (ctx rowsΦ) 20 0 37 [.int .i64 59] [] (fun v _ => some v) = some (.int .i64 (sizeF 59)) := by kernel_rfl
theorem kind60 : callK (ctx rowsΦ) 20 0 26 [.int .i64 60] [] (fun v _ => some v) = some (.int .i64 (kindF 60)) := by kernel_rfl
theorem uses60 : callK (ctx rowsΦ) 20 0 30 [.int .i64 60] [] (fun v _ => some v) = some (.tuple ⟨[.bool (rdF 60), .bool (rs1F 60), .bool (rs2F 60), .bool (immB 60)]⟩) := by kernel_rfl
theorem size60 : callK (ctx rowsΦ) 20 0 37 [.int .i64 60] [] (fun v _ => some v) = some (.int .i64 (sizeF 60)) := by kernel_rfl
theorem kind61 : callK (ctx rowsΦ) 20 0 26 [.int .i64 61] [] (fun v _ => some v) = some (.int .i64 (kindF 61)) := by kernel_rfl
theorem uses61 : callK (ctx rowsΦ) 20 0 30 [.int .i64 61] [] (fun v _ => some v) = some (.tuple ⟨[.bool (rdF 61), .bool (rs1F 61), .bool (rs2F 61), .bool (immB 61)]⟩) := by kernel_rfl
theorem size61 : callK (ctx rowsΦ) 20 0 37 [.int .i64 61] [] (fun v _ => some v) = some (.int .i64 (sizeF 61)) := by kernel_rfl
theorem kind62 : callK (ctx rowsΦ) 20 0 26 [.int .i64 62] [] (fun v _ => some v) = some (.int .i64 (kindF 62)) := by kernel_rfl
theorem uses62 : callK (ctx rowsΦ) 20 0 30 [.int .i64 62] [] (fun v _ => some v) = some (.tuple ⟨[.bool (rdF 62), .bool (rs1F 62), .bool (rs2F 62), .bool (immB 62)]⟩) := by kernel_rfl
theorem size62 : callK (ctx rowsΦ) 20 0 37 [.int .i64 62] [] (fun v _ => some v) = some (.int .i64 (sizeF 62)) := by kernel_rfl
theorem kind63 : callK (ctx rowsΦ) 20 0 26 [.int .i64 63] [] (fun v _ => some v) = some (.int .i64 (kindF 63)) := by kernel_rfl
theorem uses63 : callK (ctx rowsΦ) 20 0 30 [.int .i64 63] [] (fun v _ => some v) = some (.tuple ⟨[.bool (rdF 63), .bool (rs1F 63), .bool (rs2F 63), .bool (immB 63)]⟩) := by kernel_rfl
theorem size63 : callK (ctx rowsΦ) 20 0 37 [.int .i64 63] [] (fun v _ => some v) = some (.int .i64 (sizeF 63)) := by kernel_rfl
theorem kind64 : callK (ctx rowsΦ) 20 0 26 [.int .i64 64] [] (fun v _ => some v) = some (.int .i64 (kindF 64)) := by kernel_rfl
theorem uses64 : callK (ctx rowsΦ) 20 0 30 [.int .i64 64] [] (fun v _ => some v) = some (.tuple ⟨[.bool (rdF 64), .bool (rs1F 64), .bool (rs2F 64), .bool (immB 64)]⟩) := by kernel_rfl
theorem size64 : callK (ctx rowsΦ) 20 0 37 [.int .i64 64] [] (fun v _ => some v) = some (.int .i64 (sizeF 64)) := by kernel_rfl
theorem kind65 : callK (ctx rowsΦ) 20 0 26 [.int .i64 65] [] (fun v _ => some v) = some (.int .i64 (kindF 65)) := by kernel_rfl
theorem uses65 : callK (ctx rowsΦ) 20 0 30 [.int .i64 65] [] (fun v _ => some v) = some (.tuple ⟨[.bool (rdF 65), .bool (rs1F 65), .bool (rs2F 65), .bool (immB 65)]⟩) := by kernel_rfl
theorem size65 : callK (ctx rowsΦ) 20 0 37 [.int .i64 65] [] (fun v _ => some v) = some (.int .i64 (sizeF 65)) := by kernel_rfl
theorem kind66 : callK (ctx rowsΦ) 20 0 26 [.int .i64 66] [] (fun v _ => some v) = some (.int .i64 (kindF 66)) := by kernel_rfl
theorem uses66 : callK (ctx rowsΦ) 20 0 30 [.int .i64 66] [] (fun v _ => some v) = some (.tuple ⟨[.bool (rdF 66), .bool (rs1F 66), .bool (rs2F 66), .bool (immB 66)]⟩) := by kernel_rfl
theorem size66 : callK (ctx rowsΦ) 20 0 37 [.int .i64 66] [] (fun v _ => some v) = some (.int .i64 (sizeF 66)) := by kernel_rfl
theorem kind67 : callK (ctx rowsΦ) 20 0 26 [.int .i64 67] [] (fun v _ => some v) = some (.int .i64 (kindF 67)) := by kernel_rfl
theorem uses67 : callK (ctx rowsΦ) 20 0 30 [.int .i64 67] [] (fun v _ => some v) = some (.tuple ⟨[.bool (rdF 67), .bool (rs1F 67), .bool (rs2F 67), .bool (immB 67)]⟩) := by kernel_rfl
theorem size67 : callK (ctx rowsΦ) 20 0 37 [.int .i64 67] [] (fun v _ => some v) = some (.int .i64 (sizeF 67)) := by kernel_rfl
theorem kind68 : callK (ctx rowsΦ) 20 0 26 [.int .i64 68] [] (fun v _ => some v) = some (.int .i64 (kindF 68)) := by kernel_rfl
theorem uses68 : callK (ctx rowsΦ) 20 0 30 [.int .i64 68] [] (fun v _ => some v) = some (.tuple ⟨[.bool (rdF 68), .bool (rs1F 68), .bool (rs2F 68), .bool (immB 68)]⟩) := by kernel_rfl
theorem size68 : callK (ctx rowsΦ) 20 0 37 [.int .i64 68] [] (fun v _ => some v) = some (.int .i64 (sizeF 68)) := by kernel_rfl
theorem kind69 : callK (ctx rowsΦ) 20 0 26 [.int .i64 69] [] (fun v _ => some v) = some (.int .i64 (kindF 69)) := by kernel_rfl
theorem uses69 : callK (ctx rowsΦ) 20 0 30 [.int .i64 69] [] (fun v _ => some v) = some (.tuple ⟨[.bool (rdF 69), .bool (rs1F 69), .bool (rs2F 69), .bool (immB 69)]⟩) := by kernel_rfl
theorem size69 : callK (ctx rowsΦ) 20 0 37 [.int .i64 69] [] (fun v _ => some v) = some (.int .i64 (sizeF 69)) := by kernel_rfl
/-- An op's number. -/
def isOp (op : Int) : Bool := decide (1 ≤ op) && decide (op ≤ 69)
theorem ops {p : Int → Prop} (h : ∀ k : Nat, k < 69 → p (k + 1)) {op : Int} (ho : isOp op = true) : p op := by
  simp only [isOp, Bool.and_eq_true, decide_eq_true_eq] at ho
  have := h (op - 1).toNat (by omega)
  rwa [show ((op - 1).toNat : Int) + 1 = op by omega] at this
theorem kindAll : ∀ k : Nat, k < 69 → callK (ctx rowsΦ) 20 0 26 [.int .i64 ((k : Int) + 1)] [] (fun v _ => some v) = some (.int .i64 (kindF ((k : Int) + 1)))
  | 0, _ => kind1
  | 1, _ => kind2
  | 2, _ => kind3
  | 3, _ => kind4
  | 4, _ => kind5
  | 5, _ => kind6
  | 6, _ => kind7
  | 7, _ => kind8
  | 8, _ => kind9
  | 9, _ => kind10
  | 10, _ => kind11
  | 11, _ => kind12
  | 12, _ => kind13
  | 13, _ => kind14
  | 14, _ => kind15
  | 15, _ => kind16
  | 16, _ => kind17
  | 17, _ => kind18
  | 18, _ => kind19
  | 19, _ => kind20
  | 20, _ => kind21
  | 21, _ => kind22
  | 22, _ => kind23
  | 23, _ => kind24
  | 24, _ => kind25
  | 25, _ => kind26
  | 26, _ => kind27
  | 27, _ => kind28
  | 28, _ => kind29
  | 29, _ => kind30
  | 30, _ => kind31
  | 31, _ => kind32
  | 32, _ => kind33
  | 33, _ => kind34
  | 34, _ => kind35
  | 35, _ => kind36
  | 36, _ => kind37
  | 37, _ => kind38
  | 38, _ => kind39
  | 39, _ => kind40
  | 40, _ => kind41
  | 41, _ => kind42
  | 42, _ => kind43
  | 43, _ => kind44
  | 44, _ => kind45
  | 45, _ => kind46
  | 46, _ => kind47
  | 47, _ => kind48
  | 48, _ => kind49
  | 49, _ => kind50
  | 50, _ => kind51
  | 51, _ => kind52
  | 52, _ => kind53
  | 53, _ => kind54
  | 54, _ => kind55
  | 55, _ => kind56
  | 56, _ => kind57
  | 57, _ => kind58
  | 58, _ => kind59
  | 59, _ => kind60
  | 60, _ => kind61
  | 61, _ => kind62
  | 62, _ => kind63
  | 63, _ => kind64
  | 64, _ => kind65
  | 65, _ => kind66
  | 66, _ => kind67
  | 67, _ => kind68
  | 68, _ => kind69
  | n + 69, h => absurd h (by omega)
theorem kindOK {op : Int} (h : isOp op = true) : PureOK Try.prog 26 [.int .i64 op] (.int .i64 (kindF op)) :=
  ops (p := fun op => PureOK Try.prog 26 [.int .i64 op] (.int .i64 (kindF op))) (fun k hk => PureOK.of_run rowsΦ_ok (kindAll k hk) (Gh.plain rfl)) h
theorem usesAll : ∀ k : Nat, k < 69 → callK (ctx rowsΦ) 20 0 30 [.int .i64 ((k : Int) + 1)] [] (fun v _ => some v) = some (.tuple ⟨[.bool (rdF ((k : Int) + 1)), .bool (rs1F ((k : Int) + 1)), .bool (rs2F ((k : Int) + 1)), .bool (immB ((k : Int) + 1))]⟩)
  | 0, _ => uses1
  | 1, _ => uses2
  | 2, _ => uses3
  | 3, _ => uses4
  | 4, _ => uses5
  | 5, _ => uses6
  | 6, _ => uses7
  | 7, _ => uses8
  | 8, _ => uses9
  | 9, _ => uses10
  | 10, _ => uses11
  | 11, _ => uses12
  | 12, _ => uses13
  | 13, _ => uses14
  | 14, _ => uses15
  | 15, _ => uses16
  | 16, _ => uses17
  | 17, _ => uses18
  | 18, _ => uses19
  | 19, _ => uses20
  | 20, _ => uses21
  | 21, _ => uses22
  | 22, _ => uses23
  | 23, _ => uses24
  | 24, _ => uses25
  | 25, _ => uses26
  | 26, _ => uses27
  | 27, _ => uses28
  | 28, _ => uses29
  | 29, _ => uses30
  | 30, _ => uses31
  | 31, _ => uses32
  | 32, _ => uses33
  | 33, _ => uses34
  | 34, _ => uses35
  | 35, _ => uses36
  | 36, _ => uses37
  | 37, _ => uses38
  | 38, _ => uses39
  | 39, _ => uses40
  | 40, _ => uses41
  | 41, _ => uses42
  | 42, _ => uses43
  | 43, _ => uses44
  | 44, _ => uses45
  | 45, _ => uses46
  | 46, _ => uses47
  | 47, _ => uses48
  | 48, _ => uses49
  | 49, _ => uses50
  | 50, _ => uses51
  | 51, _ => uses52
  | 52, _ => uses53
  | 53, _ => uses54
  | 54, _ => uses55
  | 55, _ => uses56
  | 56, _ => uses57
  | 57, _ => uses58
  | 58, _ => uses59
  | 59, _ => uses60
  | 60, _ => uses61
  | 61, _ => uses62
  | 62, _ => uses63
  | 63, _ => uses64
  | 64, _ => uses65
  | 65, _ => uses66
  | 66, _ => uses67
  | 67, _ => uses68
  | 68, _ => uses69
  | n + 69, h => absurd h (by omega)
theorem usesOK {op : Int} (h : isOp op = true) : PureOK Try.prog 30 [.int .i64 op] (.tuple ⟨[.bool (rdF op), .bool (rs1F op), .bool (rs2F op), .bool (immB op)]⟩) :=
  ops (p := fun op => PureOK Try.prog 30 [.int .i64 op] (.tuple ⟨[.bool (rdF op), .bool (rs1F op), .bool (rs2F op), .bool (immB op)]⟩)) (fun k hk => PureOK.of_run rowsΦ_ok (usesAll k hk) (Gh.plain rfl)) h
theorem sizeAll : ∀ k : Nat, k < 69 → callK (ctx rowsΦ) 20 0 37 [.int .i64 ((k : Int) + 1)] [] (fun v _ => some v) = some (.int .i64 (sizeF ((k : Int) + 1)))
  | 0, _ => size1
  | 1, _ => size2
  | 2, _ => size3
  | 3, _ => size4
  | 4, _ => size5
  | 5, _ => size6
  | 6, _ => size7
  | 7, _ => size8
  | 8, _ => size9
  | 9, _ => size10
  | 10, _ => size11
  | 11, _ => size12
  | 12, _ => size13
  | 13, _ => size14
  | 14, _ => size15
  | 15, _ => size16
  | 16, _ => size17
  | 17, _ => size18
  | 18, _ => size19
  | 19, _ => size20
  | 20, _ => size21
  | 21, _ => size22
  | 22, _ => size23
  | 23, _ => size24
  | 24, _ => size25
  | 25, _ => size26
  | 26, _ => size27
  | 27, _ => size28
  | 28, _ => size29
  | 29, _ => size30
  | 30, _ => size31
  | 31, _ => size32
  | 32, _ => size33
  | 33, _ => size34
  | 34, _ => size35
  | 35, _ => size36
  | 36, _ => size37
  | 37, _ => size38
  | 38, _ => size39
  | 39, _ => size40
  | 40, _ => size41
  | 41, _ => size42
  | 42, _ => size43
  | 43, _ => size44
  | 44, _ => size45
  | 45, _ => size46
  | 46, _ => size47
  | 47, _ => size48
  | 48, _ => size49
  | 49, _ => size50
  | 50, _ => size51
  | 51, _ => size52
  | 52, _ => size53
  | 53, _ => size54
  | 54, _ => size55
  | 55, _ => size56
  | 56, _ => size57
  | 57, _ => size58
  | 58, _ => size59
  | 59, _ => size60
  | 60, _ => size61
  | 61, _ => size62
  | 62, _ => size63
  | 63, _ => size64
  | 64, _ => size65
  | 65, _ => size66
  | 66, _ => size67
  | 67, _ => size68
  | 68, _ => size69
  | n + 69, h => absurd h (by omega)
theorem sizeOK {op : Int} (h : isOp op = true) : PureOK Try.prog 37 [.int .i64 op] (.int .i64 (sizeF op)) :=
  ops (p := fun op => PureOK Try.prog 37 [.int .i64 op] (.int .i64 (sizeF op))) (fun k hk => PureOK.of_run rowsΦ_ok (sizeAll k hk) (Gh.plain rfl)) h
end Go.Proofs.Ytbcikaoklpekhaa.Ab
