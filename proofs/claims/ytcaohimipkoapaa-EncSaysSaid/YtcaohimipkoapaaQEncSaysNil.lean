/- What enc.Lay answers of a format that is none: no word; and of any format, as one function. Conditions: none. -/
import Derived.Test.YtcaohimipkoapaaQEncSaysx2
import Derived.Lib.SliceRun
namespace Go.Proofs.Ytcaohimipkoapaa.QEncSays
open Go.RowKit Go.Proofs.YtcaohimipkoapaaW.PrintWords Go.Proofs.YtcaohimipkoapaaW.PrintLast Go.Proofs.YtcaohimipkoapaaW.PrintMore
set_option linter.unusedVariables false
set_option linter.unusedSimpArgs false
/-- Is it one of the five formats? -/
def known (a0 : Int) : Bool := a0 == 73 || (a0 == 83 || (a0 == 66 || (a0 == 85 || a0 == 74)))
set_option maxHeartbeats 400000 in
theorem enc_pieces.calls_nil (a0 : Int) (w : World) (h1 : (a0 == 73) = false) (h2 : (a0 == 83) = false) (h3 : (a0 == 66) = false) (h4 : (a0 == 85) = false) (h5 : (a0 == 74) = false) :
    Calls Try.prog 41 #[.int .u8 a0] w fun e w' => e = .returned (.tuple #[.slice none 0 0, .int .i64 0]) ∧ Drawn0 w w' := by
  go_enter Try.func41, Try.ntmps41
  go_wp2
  go_ret2
  exact ⟨rfl, by repeat (first | exact Drawn0.refl _ | apply Drawn0.step)⟩
set_option maxHeartbeats 400000 in
theorem enc_Lay.calls_nil (a0 a1 : Int) (w : World) (h1 : (a0 == 73) = false) (h2 : (a0 == 83) = false) (h3 : (a0 == 66) = false) (h4 : (a0 == 85) = false) (h5 : (a0 == 74) = false) :
    Calls Try.prog 15 #[.int .u8 a0, .int .u32 a1] w fun e w' => e = .returned (.tuple #[.int .u32 0, .bool false]) ∧ Drawn0 w w' := by
  have hnl63 := fun (w : World) (a_ : Option Addr) (n_ c_ : Nat) => Go.Lib.run_eql_slice_nil (P := Try.prog) w 63 67 a_ n_ c_ 0 0 Try.underlying63
  go_enter Try.func15, Try.ntmps15
  go_wp2_with (go_at_call 41; refine (enc_pieces.calls_nil a0 _ h1 h2 h3 h4 h5).mono ?_; rintro e w' ⟨rfl, ⟨nd, rfl⟩⟩)
  go_loopw [18] (fun v18 wr => v18 = .int .i64 0 ∧ Drawn0 w wr) (fun _ _ => 0)
  case atStart => exact ⟨rfl, by repeat (first | exact Drawn0.refl _ | apply Drawn0.step)⟩
  case round =>
    obtain ⟨rfl, nd2, rfl⟩ := hrel
    go_wp2
    go_ret2
    exact ⟨rfl, by repeat (first | exact Drawn0.refl _ | apply Drawn0.step)⟩
/-- What enc.Lay answers, of any format. -/
def enc_LayAll.f (k : Nat) (a0 : Int) (a1 : Int) : Option (Int × Bool) := if known a0 = true then enc_Lay.f k a0 a1 else some (0, false)
theorem enc_LayAll.calls (k : Nat) (a0 : Int) (a1 : Int) (r1 : Int) (r2 : Bool) (w : World) (h : enc_LayAll.f k a0 a1 = some (r1, r2)) :
    Calls Try.prog 15 #[.int .u8 a0, .int .u32 a1] w fun e w' => e = .returned (.tuple #[.int .u32 r1, .bool r2]) ∧ Below w.heap.size w w' := by
  unfold enc_LayAll.f at h
  by_cases c : known a0 = true
  · rw [if_pos c] at h
    exact enc_Lay.calls k a0 a1 r1 r2 w h
  · rw [if_neg c] at h
    have c : known a0 = false := by simpa using c
    unfold known at c
    simp only [Bool.or_eq_false_iff] at c
    obtain ⟨h1, h2, h3, h4, h5⟩ := c
    obtain ⟨rfl, rfl⟩ : (0 : Int) = r1 ∧ false = r2 := by simpa using h
    refine (enc_Lay.calls_nil a0 a1 w h1 h2 h3 h4 h5).mono ?_
    rintro e w' ⟨rfl, nd, rfl⟩
    exact ⟨rfl, pw_below_drewN (Below.refl _ _) _⟩
theorem enc_LayAll.mono : ∀ a0 a1 k, LeO (enc_LayAll.f k a0 a1) (enc_LayAll.f (k + 1) a0 a1) := by
  intro a0 a1 k
  unfold enc_LayAll.f
  split
  · exact enc_Lay.mono a0 a1 k
  · exact LeO.refl _
end Go.Proofs.Ytcaohimipkoapaa.QEncSays
