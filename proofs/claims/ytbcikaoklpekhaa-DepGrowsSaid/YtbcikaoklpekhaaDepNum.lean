/- The world's Number: a number below another one. -/
import Derived.Test.YtbcikaoklpekhaaDepFirst
namespace Go.Proofs.Ytbcikaoklpekhaa.Ab
open Go Go.RowKit
set_option linter.unusedVariables false
set_option linter.unusedSimpArgs false
def numF (a b : Int) : Int := (w64 (a.tmod b + b)).tmod b
theorem num_run (a b : Int) : callK (ctx noΦ) 20 0 8 [.int .i64 a, .int .i64 b] [] (fun v _ => some v) = bif !(b == 0) then bif !(b == 0) then some (.int .i64 (numF a b)) else none else none := by kernel_rfl
theorem numberOK (a b : Int) (hb : 1 ≤ b) : PureOK Try.prog 8 [.int .i64 a, .int .i64 b] (.int .i64 (numF a b)) := by
  have h := num_run a b
  rw [show (!(b == 0)) = true by simp; omega] at h
  exact PureOK.of_run noOK h (Gh.plain rfl)
theorem num_lt (a b : Int) (hb : 1 ≤ b) (hm : b ≤ 1152921504606846976) : 0 ≤ numF a b ∧ numF a b < b := by
  have h1 := Int.tmod_lt_of_pos a (show 0 < b by omega)
  have h2 : -b < a.tmod b := Int.lt_tmod_of_pos a (show 0 < b by omega)
  have h3 : w64 (a.tmod b + b) = a.tmod b + b := w64_of (by omega) (by omega)
  unfold numF
  rw [h3]
  exact ⟨Int.tmod_nonneg b (by omega), Int.tmod_lt_of_pos _ (by omega)⟩
/-- The oracle of the statements' runs: the words, the number, what dep answers. -/
noncomputable def lwΦ (N : Int → Int → Int) (W : Int → Int → Int → Int → Int → Int) (G : Int → Int → Int → Int → Int → Bool) (G8 : Int → Int → Bool) (G9 : List Value → Nat → Bool) (V : List Value → Nat → Value) (G15 : List Value → Nat → Bool) (V15 : List Value → Nat → Value) : Oracle := fun lo f args H => match f with
  | 7 => match args with
    | [] => some [(true, .bool true, H)]
    | _ => none
  | 8 => match args with
    | [.int .i64 a, .int .i64 b] => some [(G8 a b, .int .i64 (N a b), H)]
    | _ => none
  | 13 => match args with
    | [.int .i64 op, .int .i64 a, .int .i64 b, .int .i64 c, .int .u32 i] => some [(G op a b c i, .int .u32 (W op a b c i), H)]
    | _ => none
  | 9 => match args with
    | [.func (.yield 6) ⟨xs⟩ ⟨[.int .i64 (.ofNat n)]⟩] => some [(G9 xs n, V xs n, H)]
    | _ => none
  | 15 => match args with
    | [.func (.yield 6) ⟨xs⟩ ⟨[.int .i64 (.ofNat n)]⟩] => some [(G15 xs n, V15 xs n, H)]
    | _ => none
  | _ => none
noncomputable def lwG (W : Int → Int → Int → Int → Int → Int) (op a b c i : Int) : Bool := isPure 13 [.int .i64 op, .int .i64 a, .int .i64 b, .int .i64 c, .int .u32 i] (.int .u32 (W op a b c i))
noncomputable def lwG8 (a b : Int) : Bool := decide (1 ≤ b)
noncomputable def lwG9 (f : FuncId) (V : List Value → Nat → Value) (xs : List Value) (n : Nat) : Bool := isPure f [gs 6 xs n] (V xs n)
/-- And two lists compared. -/
noncomputable def lxΦ (N : Int → Int → Int) (W : Int → Int → Int → Int → Int → Int) (G : Int → Int → Int → Int → Int → Bool) (G8 : Int → Int → Bool) (G9 : List Value → Nat → Bool) (V : List Value → Nat → Value) (G15 : List Value → Nat → Bool) (V15 : List Value → Nat → Value) (G14 : Value → Value → Bool) (S : Value → Value → Bool) : Oracle := fun lo f args H => match f with
  | 14 => match args with
    | [a, b] => some [(G14 a b, .bool (S a b), H)]
    | _ => none
  | f => lwΦ N W G G8 G9 V G15 V15 lo f args H
def sameV (a b : Value) : Bool := decide (unL a = unL b)
noncomputable def lxG (a b : Value) : Bool := isPure 14 [a, b] (.bool (sameV a b))
theorem lxG_of {a b : List Int} (h : a.length ≤ 1048576) : lxG (L1 a) (L1 b) = true := by
  refine isPure_of ?_ (fun x hx => ?_)
  · unfold sameV
    rw [unL_L1, unL_L1]; exact sameInts a b h
  · simp only [List.mem_cons, List.not_mem_nil, or_false] at hx
    rcases hx with rfl | rfl <;> exact Gh.L1 _
theorem lw_calls (W : Int → Int → Int → Int → Int → Int) (V V15 : List Value → Nat → Value) {lo f : Nat} {args : List Value} {H H' : Heap} {l : List (Bool × Value × Heap)} {v : Value} (h : lwΦ numF W (lwG W) lwG8 (lwG9 9 V) V (lwG9 15 V15) V15 lo f args H = some l) (hm : (true, v, H') ∈ l) : CallOK Try.prog lo f args H v H' ∧ (fns f).isSome = true := by
  unfold lwΦ at h
  split at h
  · split at h
    · cases h
      simp only [List.mem_cons, List.not_mem_nil, or_false, Prod.mk.injEq] at hm
      obtain ⟨_, rfl, rfl⟩ := hm
      exact ⟨firstOK.call (fun a ha => by cases ha) lo H', rfl⟩
    · cases h
  · split at h
    · cases h
      simp only [List.mem_cons, List.not_mem_nil, or_false, Prod.mk.injEq] at hm
      obtain ⟨h1, rfl, rfl⟩ := hm
      exact ⟨(numberOK _ _ (of_decide_eq_true h1.symm)).call (plains_gh rfl) lo H', rfl⟩
    · cases h
  · split at h
    · cases h
      simp only [List.mem_cons, List.not_mem_nil, or_false, Prod.mk.injEq] at hm
      obtain ⟨h1, rfl, rfl⟩ := hm
      exact ⟨isPure_call h1 lo H', rfl⟩
    · cases h
  · split at h
    · cases h
      simp only [List.mem_cons, List.not_mem_nil, or_false, Prod.mk.injEq] at hm
      obtain ⟨h1, rfl, rfl⟩ := hm
      exact ⟨isPure_call h1 lo H', rfl⟩
    · cases h
  · split at h
    · cases h
      simp only [List.mem_cons, List.not_mem_nil, or_false, Prod.mk.injEq] at hm
      obtain ⟨h1, rfl, rfl⟩ := hm
      exact ⟨isPure_call h1 lo H', rfl⟩
    · cases h
  · cases h
theorem lwΦ_ok (W : Int → Int → Int → Int → Int → Int) (V V15 : List Value → Nat → Value) : CtxOK Try.prog (ctx (lwΦ numF W (lwG W) lwG8 (lwG9 9 V) V (lwG9 15 V15) V15)) := ctxOK fun lo f args H l v H' h hm => lw_calls W V V15 h hm
theorem lxΦ_ok (W : Int → Int → Int → Int → Int → Int) (V V15 : List Value → Nat → Value) : CtxOK Try.prog (ctx (lxΦ numF W (lwG W) lwG8 (lwG9 9 V) V (lwG9 15 V15) V15 lxG sameV)) := ctxOK fun lo f args H l v H' h hm => by
  unfold lxΦ at h
  split at h
  · split at h
    · cases h
      simp only [List.mem_cons, List.not_mem_nil, or_false, Prod.mk.injEq] at hm
      obtain ⟨h1, rfl, rfl⟩ := hm
      exact ⟨isPure_call h1 lo H', rfl⟩
    · cases h
  · exact lw_calls W V V15 h hm
theorem gs_gh1 (l : List Item) (n : Nat) : ∀ a ∈ [gs 6 (itemsC l) n], Gh a := fun a ha => by
  rw [List.mem_singleton] at ha; rw [ha]; exact Gh.gs (itemsC_gh l)
theorem PureOK.calls_with {f : FuncId} {args rargs : List Value} (h : PureOK Try.prog f args (.bool true)) (w : World) (Z : Nat → Nat → List Value → Prop) (hZ : ∀ r o ys, Z r o ys → Froz w r o ys) (hv : VRs ⟨[], Z⟩ args rargs) : Calls Try.prog f rargs.toArray w fun e w' => e = .returned (.bool true) ∧ Below w.heap.size w w' :=
  (h Z w rargs hZ hv).mono fun e w' ⟨Z', rv, he, hb, _, _, hv⟩ => by
    have := plain_eq (v := .bool true) rfl hv
    subst this
    exact ⟨he, hb⟩
theorem PureOK.calls_true {f : FuncId} {args : List Value} (h : PureOK Try.prog f args (.bool true)) (hp : args.all plain = true) (w : World) : Calls Try.prog f args.toArray w fun e w' => e = .returned (.bool true) ∧ Below w.heap.size w w' :=
  (h (fun _ _ _ => False) w args (fun _ _ _ e => e.elim) (plains (fun v h => plain_VR h) hp)).mono fun e w' ⟨Z', rv, he, hb, _, _, hv⟩ => by
    have := plain_eq (v := .bool true) rfl hv
    subst this
    exact ⟨he, hb⟩
end Go.Proofs.Ytbcikaoklpekhaa.Ab
