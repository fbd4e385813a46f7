/- LonePlays: the kinds of messages. -/
import Derived.Test.YtecmjcfhbedelaaLonePlaysDefs
namespace Go.Proofs.Ytecmjcfhbedelaa.Ab.LP
theorem forms (mk : Int) : mk = 0 ∨ mk = 1 ∨ mk = 2 ∨ mk = 3 ∨ mk = 4 ∨ mk = 5 ∨ mk = 6 ∨ mk = 7 ∨ mk = 8 ∨ mk = 9 ∨ (∃ u : Nat, mk = Int.ofNat (u + 10)) ∨ ∃ u : Nat, mk = Int.negSucc u := by
  cases mk with
  | negSucc u => right; right; right; right; right; right; right; right; right; right; right; exact ⟨u, rfl⟩
  | ofNat v =>
    match v with
    | 0 => left; rfl
    | 1 => right; left; rfl
    | 2 => right; right; left; rfl
    | 3 => right; right; right; left; rfl
    | 4 => right; right; right; right; left; rfl
    | 5 => right; right; right; right; right; left; rfl
    | 6 => right; right; right; right; right; right; left; rfl
    | 7 => right; right; right; right; right; right; right; left; rfl
    | 8 => right; right; right; right; right; right; right; right; left; rfl
    | 9 => right; right; right; right; right; right; right; right; right; left; rfl
    | u + 10 => right; right; right; right; right; right; right; right; right; right; left; exact ⟨u, rfl⟩
end Go.Proofs.Ytecmjcfhbedelaa.Ab.LP
