/- Several texts as one: DepCopy, DepCopy2. -/
import Derived.Test.YtbcikaoklpekhaaDepNum
namespace Go.Proofs.Ytbcikaoklpekhaa.Ab
open Go Go.RowKit
set_option linter.unusedVariables false
set_option linter.unusedSimpArgs false
set_option maxRecDepth 100000
noncomputable def cpB (f k : Nat) : Code := loopIn (flat (bodyOf f))[k]?
noncomputable def cpP (f k l : Nat) : List Code := ((flat (bodyOf f)).drop k).take l
/-! ### Ints -/
noncomputable def inRun (l : List Code) (F : Fr) (H : Heap) (ts : List Nat) : Option (Exit × List (Option Value) × Heap) :=
  runL ((ctx noΦ).at_ 12) (callK (ctx noΦ) 20) 20 0 22 12 (keeps 12) l F H (seeA ts)
theorem fn12 : sigOf 12 = some (22, [.tmp 2]) := by kernel_rfl
theorem in_flat : flat (bodyOf 12) = cpP 12 0 3 ++ ([.block 0 (.loop (cpB 12 3))] ++ cpP 12 4 2) := by kernel_rfl
def inF (xs : List Int) (v : Value) (k : Int) : Fr := [(0, L1 xs), (3, v), (4, .int .i64 k)]
theorem in_head (xs : List Int) : inRun (cpP 12 0 3) (enterF 0 [L1 xs]) [] [0, 3, 4] =
    bif Nat.blt xs.length 4611686018427387904 && (Nat.ble (8 * xs.length) 140737488355328 && true) then some (.normal, (inF xs (sl 0 0 1) 0).map (fun e => some e.2), [some ⟨[], 3, none⟩]) else none := by kernel_rfl
theorem in_rnd (xs : List Int) (m K : Nat) (ys : List Value) : inRun (flat (cpB 12 3)) (inF xs (sl 0 m 1) (Int.ofNat K)) [some ⟨ys, 3, none⟩] [0, 3, 4] =
    bif decide (Int.ofNat K < Int.ofNat xs.length) then ldG xs K (bif Nat.beq ys.length (m * 1) && (Nat.ble ((m + 1) * 8) 140737488355328 && Nat.ble (m + 1) 9223372036854775807) then
      some (.normal, (inF xs (sl 2 (m + 1) 1) (w64 (Int.ofNat K + 1))).map (fun e => some e.2), [none, some ⟨[.int .i64 (toInt (ldI xs K))], 3, none⟩, some ⟨ys ++ [.int .i64 (toInt (ldI xs K))], 3, none⟩]) else none)
    else some (.exit 0, (inF xs (sl 0 m 1) (Int.ofNat K)).map (fun e => some e.2), [some ⟨ys, 3, none⟩]) := by kernel_rfl
theorem in_tail (xs : List Int) (m K : Nat) (ys : List Value) : inRun (cpP 12 4 2) (inF xs (sl 0 m 1) (Int.ofNat K)) [some ⟨ys, 3, none⟩] [2] = some (.ret, [some (sl 0 m 1)], [some ⟨ys, 3, none⟩]) := by kernel_rfl
theorem in_dr1 : (cpP 12 0 3).all (drawsOK ((ctx noΦ).dr 12)) = true := by kernel_rfl
theorem in_dr2 : (flat (cpB 12 3)).all (drawsOK ((ctx noΦ).dr 12)) = true := by kernel_rfl
theorem in_dr3 : (cpP 12 4 2).all (drawsOK ((ctx noΦ).dr 12)) = true := by kernel_rfl
theorem in_round (xs : List Int) (hx : xs.length ≤ 1048576) (k : Nat) (hk : k < xs.length) : GcOK Try.prog 0 0 22 (cpB 12 3) (inF xs (sl 0 k 1) (Int.ofNat k)) [some ⟨(xs.take k).map (Value.int .i64), 3, none⟩] .normal (inF xs (sl 0 (k + 1) 1) (Int.ofNat (k + 1))) [some ⟨(xs.take (k + 1)).map (Value.int .i64), 3, none⟩] := by
  have h := in_rnd xs k k ((xs.take k).map (Value.int .i64))
  have g : (Nat.beq ((xs.take k).map (Value.int .i64)).length (k * 1) && (Nat.ble ((k + 1) * 8) 140737488355328 && Nat.ble (k + 1) 9223372036854775807)) = true := moreG_eq (n := k) (z := 1) (b := 8) (by simp; omega) (by omega) (by omega)
  rw [decide_eq_true (show Int.ofNat k < Int.ofNat xs.length by simp; omega), cond_true, ldG_eq hk, g, cond_true, ldI_eq hk, w64_of (by simp; omega) (by simp; omega)] at h
  have r := RowOK.go (base := 0) (RowOK.of_seeA noOK (m := 20) (j := 20) (f := 12) (p := keeps 12) (ts := [0, 3, 4]) rfl in_dr2 h)
  have e : (xs.take (k + 1)).map (Value.int .i64) = (xs.take k).map (Value.int .i64) ++ [.int .i64 (xs.getD k 0)] := by
    rw [List.take_add_one, List.map_append, List.getElem?_eq_getElem hk, List.getD_eq_getElem?_getD, List.getElem?_eq_getElem hk]; rfl
  rw [e]
  refine GoOK.code (GoOK.one r 2 rfl rfl (fun v hv => ?_) (fun x hx => ?_))
  · rcases List.mem_append.1 hv with hh | hh
    · exact ints_gh _ v hh
    · simp at hh; subst hh; exact gh_int _ _
  · simp only [inF, List.mem_cons, List.not_mem_nil, or_false] at hx
    rcases hx with rfl | rfl | rfl
    · exact .inl ⟨rfl, Gh.L1 _⟩
    · exact .inr ⟨_, 1, by omega, rfl, rfl⟩
    · exact .inl ⟨rfl, gh_int _ _⟩
theorem ints_call (xs : List Int) (hx : xs.length ≤ 1048576) : CallOK Try.prog 0 12 [L1 xs] [] (sl 0 xs.length 1) [some ⟨(xs.take xs.length).map (Value.int .i64), 3, none⟩] := by
  obtain ⟨fn, f1, f2, f3, f4⟩ := fnOf fn12
  have h0 := in_head xs
  rw [show (Nat.blt xs.length 4611686018427387904 && (Nat.ble (8 * xs.length) 140737488355328 && true)) = true by
    rw [Bool.and_true, Bool.and_eq_true]; exact ⟨by rw [Nat.blt_eq]; omega, Nat.ble_eq_true_of_le (by omega)⟩, cond_true] at h0
  have hd : GoOK Try.prog 0 0 22 (cpP 12 0 3) (enterF 0 [L1 xs]) [] .normal (inF xs (sl 0 0 1) (Int.ofNat 0)) [some ⟨(xs.take 0).map (Value.int .i64), 3, none⟩] :=
    RowOK.go (RowOK.of_seeA noOK (m := 20) (j := 20) (f := 12) (p := keeps 12) (ts := [0, 3, 4]) rfl in_dr1 h0)
  have hend : GcOK Try.prog 0 0 22 (cpB 12 3) (inF xs (sl 0 xs.length 1) (Int.ofNat xs.length)) [some ⟨(xs.take xs.length).map (Value.int .i64), 3, none⟩] (.exit 0) (inF xs (sl 0 xs.length 1) (Int.ofNat xs.length)) [some ⟨(xs.take xs.length).map (Value.int .i64), 3, none⟩] := by
    have h := in_rnd xs xs.length xs.length ((xs.take xs.length).map (Value.int .i64))
    rw [decide_eq_false (show ¬ Int.ofNat xs.length < Int.ofNat xs.length by simp), cond_false] at h
    exact GoOK.code (RowOK.go (RowOK.of_seeA noOK (m := 20) (j := 20) (f := 12) (p := keeps 12) (ts := [0, 3, 4]) rfl in_dr2 h))
  have lp := (GcOK.block (id := 0) (GcOK.loop (P := Try.prog) (lo := 0) (base := 0) (n := 22) (c := cpB 12 3) (fun k => inF xs (sl 0 k 1) (Int.ofNat k)) (fun k => [some ⟨(xs.take k).map (Value.int .i64), 3, none⟩]) xs.length (e := .exit 0) (by intro h; cases h) (in_round xs hx) hend)).row
  have tl := RowOK.go (base := 0) (RowOK.of_seeA (F2 := [(2, sl 0 xs.length 1)]) noOK (m := 20) (j := 20) (f := 12) (p := keeps 12) (lo := 0) (n := 22) (ts := [2]) rfl in_dr3 (in_tail xs xs.length xs.length ((xs.take xs.length).map (Value.int .i64))))
  have all := hd.app (GoOK.app lp tl)
  rw [← in_flat] at all
  exact CallOK.of_go noOK (f := 12) (fn := fn) (c := bodyOf 12) (args := [L1 xs]) (l := [sl 0 xs.length 1]) (H := []) f1 f2 (by rw [f3]; simp) (by rw [f3]; exact GoOK.code all) (.inr rfl) (by rw [f4]; rfl)
theorem intsOK (xs : List Int) (hx : xs.length ≤ 1048576) : PureOK Try.prog 12 [L1 xs] (L1 xs) := by
  have hc := ints_call xs hx
  have h2 := CallOK.froz (i := 0) (n := xs.length) (z := 1) hc rfl (Nat.zero_le _) (by omega) rfl (by simp) (ints_gh _)
  rw [show (⟨(xs.take xs.length).map (Value.int .i64), 3, none⟩ : Blk).cells.take (xs.length * 1) = xs.map (Value.int .i64) by rw [List.take_length]; exact List.take_of_length_le (by simp)] at h2
  exact PureOK.of_call h2 (Gh.L1 _)
/-! ### Op -/
noncomputable def cpΦ (G : Value → Bool) : Oracle := fun lo f args H => match f with
  | 12 => match args with
    | [v] => some [(G v, L1 (unL v), H)]
    | _ => none
  | _ => none
theorem cp_run_ttt (G : Value → Bool) (k s ad v g pr su : Int) (a d c : Value) : callK (ctx (cpΦ G)) 20 1 18 [.agg ⟨opC ⟨k, s, ad, v, g, true, true, true, pr, su⟩ a d c⟩] [] (fun v _ => some v) =
    bif G a then bif G d then bif G c then some (.agg ⟨opC ⟨k, s, ad, v, g, true, true, true, pr, su⟩ (L1 (unL a)) (L1 (unL d)) (L1 (unL c))⟩) else none else none else none := by kernel_rfl
theorem cp_run_ttf (G : Value → Bool) (k s ad v g pr su : Int) (a d c : Value) : callK (ctx (cpΦ G)) 20 1 18 [.agg ⟨opC ⟨k, s, ad, v, g, true, true, false, pr, su⟩ a d c⟩] [] (fun v _ => some v) =
    bif G a then bif G d then bif G c then some (.agg ⟨opC ⟨k, s, ad, v, g, true, true, false, pr, su⟩ (L1 (unL a)) (L1 (unL d)) (L1 (unL c))⟩) else none else none else none := by kernel_rfl
theorem cp_run_tft (G : Value → Bool) (k s ad v g pr su : Int) (a d c : Value) : callK (ctx (cpΦ G)) 20 1 18 [.agg ⟨opC ⟨k, s, ad, v, g, true, false, true, pr, su⟩ a d c⟩] [] (fun v _ => some v) =
    bif G a then bif G d then bif G c then some (.agg ⟨opC ⟨k, s, ad, v, g, true, false, true, pr, su⟩ (L1 (unL a)) (L1 (unL d)) (L1 (unL c))⟩) else none else none else none := by kernel_rfl
theorem cp_run_tff (G : Value → Bool) (k s ad v g pr su : Int) (a d c : Value) : callK (ctx (cpΦ G)) 20 1 18 [.agg ⟨opC ⟨k, s, ad, v, g, true, false, false, pr, su⟩ a d c⟩] [] (fun v _ => some v) =
    bif G a then bif G d then bif G c then some (.agg ⟨opC ⟨k, s, ad, v, g, true, false, false, pr, su⟩ (L1 (unL a)) (L1 (unL d)) (L1 (unL c))⟩) else none else none else none := by kernel_rfl
theorem cp_run_ftt (G : Value → Bool) (k s ad v g pr su : Int) (a d c : Value) : callK (ctx (cpΦ G)) 20 1 18 [.agg ⟨opC ⟨k, s, ad, v, g, false, true, true, pr, su⟩ a d c⟩] [] (fun v _ => some v) =
    bif G a then bif G d then bif G c then some (.agg ⟨opC ⟨k, s, ad, v, g, false, true, true, pr, su⟩ (L1 (unL a)) (L1 (unL d)) (L1 (unL c))⟩) else none else none else none := by kernel_rfl
theorem cp_run_ftf (G : Value → Bool) (k s ad v g pr su : Int) (a d c : Value) : callK (ctx (cpΦ G)) 20 1 18 [.agg ⟨opC ⟨k, s, ad, v, g, false, true, false, pr, su⟩ a d c⟩] [] (fun v _ => some v) =
    bif G a then bif G d then bif G c then some (.agg ⟨opC ⟨k, s, ad, v, g, false, true, false, pr, su⟩ (L1 (unL a)) (L1 (unL d)) (L1 (unL c))⟩) else none else none else none := by kernel_rfl
theorem cp_run_fft (G : Value → Bool) (k s ad v g pr su : Int) (a d c : Value) : callK (ctx (cpΦ G)) 20 1 18 [.agg ⟨opC ⟨k, s, ad, v, g, false, false, true, pr, su⟩ a d c⟩] [] (fun v _ => some v) =
    bif G a then bif G d then bif G c then some (.agg ⟨opC ⟨k, s, ad, v, g, false, false, true, pr, su⟩ (L1 (unL a)) (L1 (unL d)) (L1 (unL c))⟩) else none else none else none := by kernel_rfl
theorem cp_run_fff (G : Value → Bool) (k s ad v g pr su : Int) (a d c : Value) : callK (ctx (cpΦ G)) 20 1 18 [.agg ⟨opC ⟨k, s, ad, v, g, false, false, false, pr, su⟩ a d c⟩] [] (fun v _ => some v) =
    bif G a then bif G d then bif G c then some (.agg ⟨opC ⟨k, s, ad, v, g, false, false, false, pr, su⟩ (L1 (unL a)) (L1 (unL d)) (L1 (unL c))⟩) else none else none else none := by kernel_rfl
theorem cp_run (G : Value → Bool) (q : OpT) (a d c : Value) : callK (ctx (cpΦ G)) 20 1 18 [.agg ⟨opC q a d c⟩] [] (fun v _ => some v) =
    bif G a then bif G d then bif G c then some (.agg ⟨opC q (L1 (unL a)) (L1 (unL d)) (L1 (unL c))⟩) else none else none else none := by
  obtain ⟨k, s, ad, v, g, p, aq, rl, pr, su⟩ := q
  cases p <;> cases aq <;> cases rl
  · exact cp_run_fff G k s ad v g pr su a d c
  · exact cp_run_fft G k s ad v g pr su a d c
  · exact cp_run_ftf G k s ad v g pr su a d c
  · exact cp_run_ftt G k s ad v g pr su a d c
  · exact cp_run_tff G k s ad v g pr su a d c
  · exact cp_run_tft G k s ad v g pr su a d c
  · exact cp_run_ttf G k s ad v g pr su a d c
  · exact cp_run_ttt G k s ad v g pr su a d c
noncomputable def cpG (v : Value) : Bool := isPure 12 [v] (L1 (unL v))
theorem cpG_of {xs : List Int} (h : xs.length ≤ 1048576) : cpG (L1 xs) = true := by
  unfold cpG
  rw [unL_L1]
  exact isPure_of (intsOK xs h) (fun a ha => by rw [List.mem_singleton] at ha; rw [ha]; exact Gh.L1 _)
theorem cpΦ_ok : CtxOK Try.prog (ctx (cpΦ cpG)) := ctxOK fun lo f args H l v H' h hm => by
  unfold cpΦ at h
  split at h
  · split at h
    · cases h
      simp only [List.mem_cons, List.not_mem_nil, or_false, Prod.mk.injEq] at hm
      obtain ⟨h1, rfl, rfl⟩ := hm
      exact ⟨isPure_call h1 lo H', rfl⟩
    · cases h
  · cases h
/-- Lists that are not too long. -/
structure OpR.Fits (r : OpR) : Prop where
  addr : r.addr.length ≤ 1048576
  data : r.data.length ≤ 1048576
  ctrl : r.ctrl.length ≤ 1048576
theorem cells_gh (r : OpR) : ∀ x ∈ r.cells, Gh x := opC_gh (Gh.L1 _) (Gh.L1 _) (Gh.L1 _)
theorem opCopyOK (r : OpR) (h : r.Fits) : PureOK Try.prog 18 [.agg ⟨r.cells⟩] (.agg ⟨r.cells⟩) := by
  have hr := cp_run cpG r.q (L1 r.addr) (L1 r.data) (L1 r.ctrl)
  rw [cpG_of h.addr, cpG_of h.data, cpG_of h.ctrl, unL_L1, unL_L1, unL_L1] at hr
  obtain ⟨v, H', h1, h2, _⟩ := callK_sound cpΦ_ok 20 _ _ _ _ _ _ hr
  cases h1
  exact PureOK.of_call h2 (Gh.agg (cells_gh r))
/-! ### SameOp -/
noncomputable def saΦ (G : Value → Value → Bool) : Oracle := fun lo f args H => match f with
  | 14 => match args with
    | [a, b] => some [(G a b, .bool true, H)]
    | _ => none
  | _ => none
theorem sa_run_ttt (G : Value → Value → Bool) (k s ad v g pr su : Int) (a d c : Value) : callK (ctx (saΦ G)) 20 0 17 [.agg ⟨opC ⟨k, s, ad, v, g, true, true, true, pr, su⟩ a d c⟩, .agg ⟨opC ⟨k, s, ad, v, g, true, true, true, pr, su⟩ a d c⟩] [] (fun v _ => some v) =
    bif G a a then bif G d d then bif G c c then bif k == k then bif s == s then bif ad == ad then bif v == v then bif g == g then bif pr == pr then bif su == su then some (.bool true) else some (.bool false) else some (.bool false) else some (.bool false) else some (.bool false) else some (.bool false) else some (.bool false) else some (.bool false) else none else none else none := by kernel_rfl
theorem sa_run_ttf (G : Value → Value → Bool) (k s ad v g pr su : Int) (a d c : Value) : callK (ctx (saΦ G)) 20 0 17 [.agg ⟨opC ⟨k, s, ad, v, g, true, true, false, pr, su⟩ a d c⟩, .agg ⟨opC ⟨k, s, ad, v, g, true, true, false, pr, su⟩ a d c⟩] [] (fun v _ => some v) =
    bif G a a then bif G d d then bif G c c then bif k == k then bif s == s then bif ad == ad then bif v == v then bif g == g then bif pr == pr then bif su == su then some (.bool true) else some (.bool false) else some (.bool false) else some (.bool false) else some (.bool false) else some (.bool false) else some (.bool false) else some (.bool false) else none else none else none := by kernel_rfl
theorem sa_run_tft (G : Value → Value → Bool) (k s ad v g pr su : Int) (a d c : Value) : callK (ctx (saΦ G)) 20 0 17 [.agg ⟨opC ⟨k, s, ad, v, g, true, false, true, pr, su⟩ a d c⟩, .agg ⟨opC ⟨k, s, ad, v, g, true, false, true, pr, su⟩ a d c⟩] [] (fun v _ => some v) =
    bif G a a then bif G d d then bif G c c then bif k == k then bif s == s then bif ad == ad then bif v == v then bif g == g then bif pr == pr then bif su == su then some (.bool true) else some (.bool false) else some (.bool false) else some (.bool false) else some (.bool false) else some (.bool false) else some (.bool false) else some (.bool false) else none else none else none := by kernel_rfl
theorem sa_run_tff (G : Value → Value → Bool) (k s ad v g pr su : Int) (a d c : Value) : callK (ctx (saΦ G)) 20 0 17 [.agg ⟨opC ⟨k, s, ad, v, g, true, false, false, pr, su⟩ a d c⟩, .agg ⟨opC ⟨k, s, ad, v, g, true, false, false, pr, su⟩ a d c⟩] [] (fun v _ => some v) =
    bif G a a then bif G d d then bif G c c then bif k == k then bif s == s then bif ad == ad then bif v == v then bif g == g then bif pr == pr then bif su == su then some (.bool true) else some (.bool false) else some (.bool false) else some (.bool false) else some (.bool false) else some (.bool false) else some (.bool false) else some (.bool false) else none else none else none := by kernel_rfl
theorem sa_run_ftt (G : Value → Value → Bool) (k s ad v g pr su : Int) (a d c : Value) : callK (ctx (saΦ G)) 20 0 17 [.agg ⟨opC ⟨k, s, ad, v, g, false, true, true, pr, su⟩ a d c⟩, .agg ⟨opC ⟨k, s, ad, v, g, false, true, true, pr, su⟩ a d c⟩] [] (fun v _ => some v) =
    bif G a a then bif G d d then bif G c c then bif k == k then bif s == s then bif ad == ad then bif v == v then bif g == g then bif pr == pr then bif su == su then some (.bool true) else some (.bool false) else some (.bool false) else some (.bool false) else some (.bool false) else some (.bool false) else some (.bool false) else some (.bool false) else none else none else none := by kernel_rfl
theorem sa_run_ftf (G : Value → Value → Bool) (k s ad v g pr su : Int) (a d c : Value) : callK (ctx (saΦ G)) 20 0 17 [.agg ⟨opC ⟨k, s, ad, v, g, false, true, false, pr, su⟩ a d c⟩, .agg ⟨opC ⟨k, s, ad, v, g, false, true, false, pr, su⟩ a d c⟩] [] (fun v _ => some v) =
    bif G a a then bif G d d then bif G c c then bif k == k then bif s == s then bif ad == ad then bif v == v then bif g == g then bif pr == pr then bif su == su then some (.bool true) else some (.bool false) else some (.bool false) else some (.bool false) else some (.bool false) else some (.bool false) else some (.bool false) else some (.bool false) else none else none else none := by kernel_rfl
theorem sa_run_fft (G : Value → Value → Bool) (k s ad v g pr su : Int) (a d c : Value) : callK (ctx (saΦ G)) 20 0 17 [.agg ⟨opC ⟨k, s, ad, v, g, false, false, true, pr, su⟩ a d c⟩, .agg ⟨opC ⟨k, s, ad, v, g, false, false, true, pr, su⟩ a d c⟩] [] (fun v _ => some v) =
    bif G a a then bif G d d then bif G c c then bif k == k then bif s == s then bif ad == ad then bif v == v then bif g == g then bif pr == pr then bif su == su then some (.bool true) else some (.bool false) else some (.bool false) else some (.bool false) else some (.bool false) else some (.bool false) else some (.bool false) else some (.bool false) else none else none else none := by kernel_rfl
theorem sa_run_fff (G : Value → Value → Bool) (k s ad v g pr su : Int) (a d c : Value) : callK (ctx (saΦ G)) 20 0 17 [.agg ⟨opC ⟨k, s, ad, v, g, false, false, false, pr, su⟩ a d c⟩, .agg ⟨opC ⟨k, s, ad, v, g, false, false, false, pr, su⟩ a d c⟩] [] (fun v _ => some v) =
    bif G a a then bif G d d then bif G c c then bif k == k then bif s == s then bif ad == ad then bif v == v then bif g == g then bif pr == pr then bif su == su then some (.bool true) else some (.bool false) else some (.bool false) else some (.bool false) else some (.bool false) else some (.bool false) else some (.bool false) else some (.bool false) else none else none else none := by kernel_rfl
theorem sa_run (G : Value → Value → Bool) (q : OpT) (a d c : Value) (ha : G a a = true) (hd : G d d = true) (hc : G c c = true) : callK (ctx (saΦ G)) 20 0 17 [.agg ⟨opC q a d c⟩, .agg ⟨opC q a d c⟩] [] (fun v _ => some v) = some (.bool true) := by
  obtain ⟨k, s, ad, v, g, p, aq, rl, pr, su⟩ := q
  cases p <;> cases aq <;> cases rl
  · rw [sa_run_fff, ha, hd, hc]; simp only [beq_self_eq_true, cond_true]
  · rw [sa_run_fft, ha, hd, hc]; simp only [beq_self_eq_true, cond_true]
  · rw [sa_run_ftf, ha, hd, hc]; simp only [beq_self_eq_true, cond_true]
  · rw [sa_run_ftt, ha, hd, hc]; simp only [beq_self_eq_true, cond_true]
  · rw [sa_run_tff, ha, hd, hc]; simp only [beq_self_eq_true, cond_true]
  · rw [sa_run_tft, ha, hd, hc]; simp only [beq_self_eq_true, cond_true]
  · rw [sa_run_ttf, ha, hd, hc]; simp only [beq_self_eq_true, cond_true]
  · rw [sa_run_ttt, ha, hd, hc]; simp only [beq_self_eq_true, cond_true]
noncomputable def saG (a b : Value) : Bool := isPure 14 [a, b] (.bool true)
theorem saG_of {xs : List Int} (h : xs.length ≤ 1048576) : saG (L1 xs) (L1 xs) = true := by
  have := sameInts xs xs h
  rw [decide_eq_true rfl] at this
  refine isPure_of this (fun a ha => ?_)
  simp only [List.mem_cons, List.not_mem_nil, or_false] at ha
  rcases ha with rfl | rfl <;> exact Gh.L1 _
theorem saΦ_ok : CtxOK Try.prog (ctx (saΦ saG)) := ctxOK fun lo f args H l v H' h hm => by
  unfold saΦ at h
  split at h
  · split at h
    · cases h
      simp only [List.mem_cons, List.not_mem_nil, or_false, Prod.mk.injEq] at hm
      obtain ⟨h1, rfl, rfl⟩ := hm
      exact ⟨isPure_call h1 lo H', rfl⟩
    · cases h
  · cases h
theorem sameOpOK (r : OpR) (h : r.Fits) : PureOK Try.prog 17 [.agg ⟨r.cells⟩, .agg ⟨r.cells⟩] (.bool true) := by
  have hr := sa_run saG r.q (L1 r.addr) (L1 r.data) (L1 r.ctrl) (saG_of h.addr) (saG_of h.data) (saG_of h.ctrl)
  obtain ⟨v, H', h1, h2, _⟩ := callK_sound saΦ_ok 20 _ _ _ _ _ _ hr
  cases h1
  exact PureOK.of_call h2 (Gh.plain rfl)
end Go.Proofs.Ytbcikaoklpekhaa.Ab
namespace Go.Proofs.Ytbcikaoklpekhaa.Ab
open Go Go.RowKit
set_option linter.unusedVariables false
set_option linter.unusedSimpArgs false
set_option maxRecDepth 100000
def cut13 (cs : List Value) (K : Nat) : List Value := List.take 13 (List.drop 0 (List.drop (K * 13) cs))
noncomputable def coΦ (G : List Value → Bool) (E : Nat → List Value → Value) (G2 : List Value → List Value → Bool) : Oracle := fun lo f args H => match f with
  | 18 => match args with
    | [.agg ⟨xs⟩] => some [(G xs, .agg ⟨[E 0 xs, E 1 xs, E 2 xs, E 3 xs, E 4 xs, E 5 xs, E 6 xs, E 7 xs, E 8 xs, E 9 xs, E 10 xs, E 11 xs, E 12 xs]⟩, H)]
    | _ => none
  | 17 => match args with
    | [.agg ⟨xs⟩, .agg ⟨ys⟩] => some [(G2 xs ys, .bool true, H)]
    | _ => none
  | _ => none
noncomputable def coRun (G : List Value → Bool) (E : Nat → List Value → Value) (G2 : List Value → List Value → Bool) (n f : Nat) (l : List Code) (F : Fr) (H : Heap) (ts : List Nat) : Option (Exit × List (Option Value) × Heap) :=
  runL ((ctx (coΦ G E G2)).at_ f) (callK (ctx (coΦ G E G2)) 20) 20 0 n f (keeps f) l F H (seeA ts)
/-! ### Ops -/
theorem fn11 : sigOf 11 = some (23, [.tmp 2]) := by kernel_rfl
theorem co_flat : flat (bodyOf 11) = cpP 11 0 3 ++ ([.block 0 (.loop (cpB 11 3))] ++ cpP 11 4 2) := by kernel_rfl
def coF (cs : List Value) (n : Nat) (v : Value) (k : Int) : Fr := [(0, gs 13 cs n), (3, v), (4, .int .i64 k)]
def coE (E : Nat → List Value → Value) (cs : List Value) (K : Nat) : List Value := [E 0 (cut13 cs K), E 1 (cut13 cs K), E 2 (cut13 cs K), E 3 (cut13 cs K), E 4 (cut13 cs K), E 5 (cut13 cs K), E 6 (cut13 cs K), E 7 (cut13 cs K), E 8 (cut13 cs K), E 9 (cut13 cs K), E 10 (cut13 cs K), E 11 (cut13 cs K), E 12 (cut13 cs K)]
theorem co_head (G : List Value → Bool) (E : Nat → List Value → Value) (G2 : List Value → List Value → Bool) (cs : List Value) (n : Nat) : coRun G E G2 23 11 (cpP 11 0 3) (enterF 0 [gs 13 cs n]) [] [0, 3, 4] =
    bif Nat.blt n 4611686018427387904 && (Nat.ble (120 * n) 140737488355328 && true) then some (.normal, (coF cs n (sl 0 0 13) 0).map (fun e => some e.2), [some ⟨[], 32, none⟩]) else none := by kernel_rfl
theorem co_rnd (G : List Value → Bool) (E : Nat → List Value → Value) (G2 : List Value → List Value → Bool) (cs : List Value) (n m K : Nat) (ys : List Value) : coRun G E G2 23 11 (flat (cpB 11 3)) (coF cs n (sl 0 m 13) (Int.ofNat K)) [some ⟨ys, 32, none⟩] [0, 3, 4] =
    bif decide (Int.ofNat K < Int.ofNat n) then bif decide (Int.ofNat K < Int.ofNat n) && true then bif Nat.ble 13 (List.drop (K * 13) cs).length then bif G (cut13 cs K) then
    bif Nat.beq ys.length (m * 13) && ((coE E cs K).all Ab.one && (Nat.ble ((m + 1) * 120) 140737488355328 && Nat.ble (m + 1) 9223372036854775807)) then
      some (.normal, (coF cs n (sl 2 (m + 1) 13) (w64 (Int.ofNat K + 1))).map (fun e => some e.2), [none, some ⟨coE E cs K, 32, none⟩, some ⟨ys ++ coE E cs K, 32, none⟩]) else none else none else none else none
    else some (.exit 0, (coF cs n (sl 0 m 13) (Int.ofNat K)).map (fun e => some e.2), [some ⟨ys, 32, none⟩]) := by kernel_rfl
theorem co_tail (G : List Value → Bool) (E : Nat → List Value → Value) (G2 : List Value → List Value → Bool) (cs : List Value) (n m : Nat) (k : Int) (ys : List Value) : coRun G E G2 23 11 (cpP 11 4 2) (coF cs n (sl 0 m 13) k) [some ⟨ys, 32, none⟩] [2] = some (.ret, [some (sl 0 m 13)], [some ⟨ys, 32, none⟩]) := by kernel_rfl
theorem co_dr1 (G : List Value → Bool) (E : Nat → List Value → Value) (G2 : List Value → List Value → Bool) : (cpP 11 0 3).all (drawsOK ((ctx (coΦ G E G2)).dr 11)) = true := by kernel_rfl
theorem co_dr2 (G : List Value → Bool) (E : Nat → List Value → Value) (G2 : List Value → List Value → Bool) : (flat (cpB 11 3)).all (drawsOK ((ctx (coΦ G E G2)).dr 11)) = true := by kernel_rfl
theorem co_dr3 (G : List Value → Bool) (E : Nat → List Value → Value) (G2 : List Value → List Value → Bool) : (cpP 11 4 2).all (drawsOK ((ctx (coΦ G E G2)).dr 11)) = true := by kernel_rfl
noncomputable def coG (xs : List Value) : Bool := isPure 18 [.agg ⟨xs⟩] (.agg ⟨(List.range 13).map fun i => xs.getD i undef⟩)
noncomputable def coG2 (xs ys : List Value) : Bool := isPure 17 [.agg ⟨xs⟩, .agg ⟨ys⟩] (.bool true)
def coEE (i : Nat) (xs : List Value) : Value := xs.getD i undef
theorem coΦ_ok : CtxOK Try.prog (ctx (coΦ coG coEE coG2)) := ctxOK fun lo f args H l v H' h hm => by
  unfold coΦ at h
  split at h
  · split at h
    · cases h
      simp only [List.mem_cons, List.not_mem_nil, or_false, Prod.mk.injEq] at hm
      obtain ⟨h1, rfl, rfl⟩ := hm
      exact ⟨isPure_call h1 lo H', rfl⟩
    · cases h
  · split at h
    · cases h
      simp only [List.mem_cons, List.not_mem_nil, or_false, Prod.mk.injEq] at hm
      obtain ⟨h1, rfl, rfl⟩ := hm
      exact ⟨isPure_call h1 lo H', rfl⟩
    · cases h
  · cases h
theorem cells13 (r : OpR) : (List.range 13).map (fun i => r.cells.getD i undef) = r.cells := rfl
theorem agg_gh1 (r : OpR) : ∀ a ∈ [Value.agg ⟨r.cells⟩], Gh a := fun a ha => by
  rw [List.mem_singleton] at ha; rw [ha]; exact Gh.agg (cells_gh r)
theorem coG_of {r : OpR} (h : r.Fits) : coG r.cells = true := by
  unfold coG
  rw [cells13]
  exact isPure_of (opCopyOK r h) (agg_gh1 r)
theorem coG2_of {r : OpR} (h : r.Fits) : coG2 r.cells r.cells = true := by
  refine isPure_of (sameOpOK r h) (fun a ha => ?_)
  simp only [List.mem_cons, List.not_mem_nil, or_false] at ha
  rcases ha with rfl | rfl <;> exact Gh.agg (cells_gh r)
theorem cut_op {ops : List OpR} {k : Nat} (hk : k < ops.length) : cut13 (opsC ops) k = ops[k].cells ∧ Nat.ble 13 (List.drop (k * 13) (opsC ops)).length = true := by
  have e : (opsC ops).drop (k * 13) = ops[k].cells ++ opsC (ops.drop (k + 1)) := by
    unfold opsC
    rw [flat_drop (f := OpR.cells) (fun x => rfl), List.drop_eq_getElem_cons hk, List.flatMap_cons]
  unfold cut13
  rw [e]
  refine ⟨by rw [List.drop_zero]; exact List.take_left' rfl, Nat.ble_eq_true_of_le (by rw [List.length_append]; show 13 ≤ 13 + _; omega)⟩
theorem opsC_take {ops : List OpR} {k : Nat} (hk : k < ops.length) : opsC (ops.take (k + 1)) = opsC (ops.take k) ++ ops[k].cells := by
  rw [List.take_add_one, List.getElem?_eq_getElem hk, opsC_append]; simp [opsC]
theorem co_round (ops : List OpR) (hn : ops.length ≤ 1000000) (hf : ∀ r ∈ ops, r.Fits) (k : Nat) (hk : k < ops.length) : GcOK Try.prog 0 0 23 (cpB 11 3) (coF (opsC ops) ops.length (sl 0 k 13) (Int.ofNat k)) [some ⟨opsC (ops.take k), 32, none⟩] .normal (coF (opsC ops) ops.length (sl 0 (k + 1) 13) (Int.ofNat (k + 1))) [some ⟨opsC (ops.take (k + 1)), 32, none⟩] := by
  have h := co_rnd coG coEE coG2 (opsC ops) ops.length k k (opsC (ops.take k))
  obtain ⟨c1, c2⟩ := cut_op hk
  have e : coE coEE (opsC ops) k = ops[k].cells := by
    show [coEE 0 (cut13 (opsC ops) k), coEE 1 (cut13 (opsC ops) k), coEE 2 (cut13 (opsC ops) k), coEE 3 (cut13 (opsC ops) k), coEE 4 (cut13 (opsC ops) k), coEE 5 (cut13 (opsC ops) k), coEE 6 (cut13 (opsC ops) k), coEE 7 (cut13 (opsC ops) k), coEE 8 (cut13 (opsC ops) k), coEE 9 (cut13 (opsC ops) k), coEE 10 (cut13 (opsC ops) k), coEE 11 (cut13 (opsC ops) k), coEE 12 (cut13 (opsC ops) k)] = _
    rw [c1]; rfl
  have g : (Nat.beq (opsC (ops.take k)).length (k * 13) && (ops[k].cells.all Ab.one && (Nat.ble ((k + 1) * 120) 140737488355328 && Nat.ble (k + 1) 9223372036854775807))) = true := by
    rw [opsC_len, List.length_take, Nat.min_eq_left (by omega)]
    simp only [Bool.and_eq_true]
    exact ⟨by simp, rfl, Nat.ble_eq_true_of_le (by omega), Nat.ble_eq_true_of_le (by omega)⟩
  rw [decide_eq_true (show Int.ofNat k < Int.ofNat ops.length by simp; omega), c2, c1, coG_of (hf _ (List.getElem_mem hk)), e, g, w64_of (by simp; omega) (by simp; omega)] at h
  simp only [cond_true, Bool.and_true] at h
  have r := RowOK.go (base := 0) (RowOK.of_seeA coΦ_ok (m := 20) (j := 20) (f := 11) (p := keeps 11) (ts := [0, 3, 4]) rfl (co_dr2 _ _ _) h)
  rw [opsC_take hk]
  refine GoOK.code (GoOK.one r 2 rfl rfl (fun v hv => ?_) (fun x hx => ?_))
  · rcases List.mem_append.1 hv with hh | hh
    · exact opsC_gh _ v hh
    · exact cells_gh _ v hh
  · simp only [coF, List.mem_cons, List.not_mem_nil, or_false] at hx
    rcases hx with rfl | rfl | rfl
    · exact .inl ⟨rfl, Gh.gs (opsC_gh _)⟩
    · exact .inr ⟨_, 13, by omega, rfl, rfl⟩
    · exact .inl ⟨rfl, gh_int _ _⟩
theorem opsCopyOK (ops : List OpR) (hn : ops.length ≤ 1000000) (hf : ∀ r ∈ ops, r.Fits) : PureOK Try.prog 11 [gs 13 (opsC ops) ops.length] (gs 13 (opsC ops) ops.length) := by
  obtain ⟨fn, f1, f2, f3, f4⟩ := fnOf fn11
  have h0 := co_head coG coEE coG2 (opsC ops) ops.length
  rw [show (Nat.blt ops.length 4611686018427387904 && (Nat.ble (120 * ops.length) 140737488355328 && true)) = true by
    rw [Bool.and_true, Bool.and_eq_true]; exact ⟨by rw [Nat.blt_eq]; omega, Nat.ble_eq_true_of_le (by omega)⟩, cond_true] at h0
  have hd : GoOK Try.prog 0 0 23 (cpP 11 0 3) (enterF 0 [gs 13 (opsC ops) ops.length]) [] .normal (coF (opsC ops) ops.length (sl 0 0 13) (Int.ofNat 0)) [some ⟨opsC (ops.take 0), 32, none⟩] :=
    RowOK.go (RowOK.of_seeA coΦ_ok (m := 20) (j := 20) (f := 11) (p := keeps 11) (ts := [0, 3, 4]) rfl (co_dr1 _ _ _) h0)
  have hend : GcOK Try.prog 0 0 23 (cpB 11 3) (coF (opsC ops) ops.length (sl 0 ops.length 13) (Int.ofNat ops.length)) [some ⟨opsC (ops.take ops.length), 32, none⟩] (.exit 0) (coF (opsC ops) ops.length (sl 0 ops.length 13) (Int.ofNat ops.length)) [some ⟨opsC (ops.take ops.length), 32, none⟩] := by
    have h := co_rnd coG coEE coG2 (opsC ops) ops.length ops.length ops.length (opsC (ops.take ops.length))
    rw [decide_eq_false (show ¬ Int.ofNat ops.length < Int.ofNat ops.length by simp), cond_false] at h
    exact GoOK.code (RowOK.go (RowOK.of_seeA coΦ_ok (m := 20) (j := 20) (f := 11) (p := keeps 11) (ts := [0, 3, 4]) rfl (co_dr2 _ _ _) h))
  have lp := (GcOK.block (id := 0) (GcOK.loop (P := Try.prog) (lo := 0) (base := 0) (n := 23) (c := cpB 11 3) (fun k => coF (opsC ops) ops.length (sl 0 k 13) (Int.ofNat k)) (fun k => [some ⟨opsC (ops.take k), 32, none⟩]) ops.length (e := .exit 0) (by intro h; cases h) (co_round ops hn hf) hend)).row
  have tl := RowOK.go (base := 0) (RowOK.of_seeA (F2 := [(2, sl 0 ops.length 13)]) coΦ_ok (m := 20) (j := 20) (f := 11) (p := keeps 11) (lo := 0) (n := 23) (ts := [2]) rfl (co_dr3 _ _ _) (co_tail coG coEE coG2 (opsC ops) ops.length ops.length (Int.ofNat ops.length) (opsC (ops.take ops.length))))
  have all := hd.app (GoOK.app lp tl)
  rw [← co_flat] at all
  have hc : CallOK Try.prog 0 11 [gs 13 (opsC ops) ops.length] [] (sl 0 ops.length 13) [some ⟨opsC (ops.take ops.length), 32, none⟩] :=
    CallOK.of_go noOK (f := 11) (fn := fn) (c := bodyOf 11) (args := [gs 13 (opsC ops) ops.length]) (l := [sl 0 ops.length 13]) (H := []) f1 f2 (by rw [f3]; simp) (by rw [f3]; exact GoOK.code all) (.inr rfl) (by rw [f4]; rfl)
  have h2 := CallOK.froz (i := 0) (n := ops.length) (z := 13) hc rfl (Nat.zero_le _) (by omega) rfl (by rw [List.take_length]; show ops.length * 13 ≤ (opsC ops).length; rw [opsC_len]; exact Nat.le_refl _) (by rw [List.take_length]; exact opsC_gh _)
  rw [show (⟨opsC (ops.take ops.length), 32, none⟩ : Blk).cells.take (ops.length * 13) = opsC ops by rw [List.take_length]; exact List.take_of_length_le (by rw [opsC_len]; exact Nat.le_refl _)] at h2
  exact PureOK.of_call h2 (Gh.gs (opsC_gh _))
/-! ### SameOps -/
theorem fn10 : sigOf 10 = some (29, [.tmp 4]) := by kernel_rfl
theorem so_flat : flat (bodyOf 10) = cpP 10 0 4 ++ ([.block 0 (.loop (cpB 10 4))] ++ cpP 10 5 2) := by kernel_rfl
def soF (cs : List Value) (n : Nat) (k : Int) : Fr := [(0, gs 13 cs n), (1, gs 13 cs n), (4, .bool false), (5, .int .i64 k)]
theorem so_head (G : List Value → Bool) (E : Nat → List Value → Value) (G2 : List Value → List Value → Bool) (cs : List Value) (n : Nat) : coRun G E G2 29 10 (cpP 10 0 4) (enterF 0 [gs 13 cs n, gs 13 cs n]) [] [0, 1, 4, 5] =
    bif Int.ofNat n != Int.ofNat n then some (.ret, [some (gs 13 cs n), some (gs 13 cs n), some (.bool false), none], []) else some (.normal, (soF cs n 0).map (fun e => some e.2), []) := by kernel_rfl
theorem so_rnd (G : List Value → Bool) (E : Nat → List Value → Value) (G2 : List Value → List Value → Bool) (cs : List Value) (n K : Nat) : coRun G E G2 29 10 (flat (cpB 10 4)) (soF cs n (Int.ofNat K)) [] [0, 1, 4, 5] =
    bif decide (Int.ofNat K < Int.ofNat n) then bif decide (Int.ofNat K < Int.ofNat n) && true then bif Nat.ble 13 (List.drop (K * 13) cs).length then bif decide (Int.ofNat K < Int.ofNat n) && true then bif Nat.ble 13 (List.drop (K * 13) cs).length then bif G2 (cut13 cs K) (cut13 cs K) then
      some (.normal, (soF cs n (w64 (Int.ofNat K + 1))).map (fun e => some e.2), []) else none else none else none else none else none
    else some (.exit 0, (soF cs n (Int.ofNat K)).map (fun e => some e.2), []) := by kernel_rfl
theorem so_tail (G : List Value → Bool) (E : Nat → List Value → Value) (G2 : List Value → List Value → Bool) (cs : List Value) (n : Nat) (k : Int) : coRun G E G2 29 10 (cpP 10 5 2) (soF cs n k) [] [4] = some (.ret, [some (.bool true)], []) := by kernel_rfl
theorem so_dr1 (G : List Value → Bool) (E : Nat → List Value → Value) (G2 : List Value → List Value → Bool) : (cpP 10 0 4).all (drawsOK ((ctx (coΦ G E G2)).dr 10)) = true := by kernel_rfl
theorem so_dr2 (G : List Value → Bool) (E : Nat → List Value → Value) (G2 : List Value → List Value → Bool) : (flat (cpB 10 4)).all (drawsOK ((ctx (coΦ G E G2)).dr 10)) = true := by kernel_rfl
theorem so_dr3 (G : List Value → Bool) (E : Nat → List Value → Value) (G2 : List Value → List Value → Bool) : (cpP 10 5 2).all (drawsOK ((ctx (coΦ G E G2)).dr 10)) = true := by kernel_rfl
theorem sameOpsOK (ops : List OpR) (hn : ops.length ≤ 1000000) (hf : ∀ r ∈ ops, r.Fits) : PureOK Try.prog 10 [gs 13 (opsC ops) ops.length, gs 13 (opsC ops) ops.length] (.bool true) := by
  obtain ⟨fn, f1, f2, f3, f4⟩ := fnOf fn10
  have h0 := so_head coG coEE coG2 (opsC ops) ops.length
  rw [show (Int.ofNat ops.length != Int.ofNat ops.length) = false by simp, cond_false] at h0
  have hd : GoOK Try.prog 0 0 29 (cpP 10 0 4) (enterF 0 [gs 13 (opsC ops) ops.length, gs 13 (opsC ops) ops.length]) [] .normal (soF (opsC ops) ops.length (Int.ofNat 0)) [] :=
    RowOK.go (RowOK.of_seeA coΦ_ok (m := 20) (j := 20) (f := 10) (p := keeps 10) (ts := [0, 1, 4, 5]) rfl (so_dr1 _ _ _) h0)
  have rnd : ∀ k, k < ops.length → GcOK Try.prog 0 0 29 (cpB 10 4) (soF (opsC ops) ops.length (Int.ofNat k)) [] .normal (soF (opsC ops) ops.length (Int.ofNat (k + 1))) [] := fun k hk => by
    have h := so_rnd coG coEE coG2 (opsC ops) ops.length k
    obtain ⟨c1, c2⟩ := cut_op hk
    rw [decide_eq_true (show Int.ofNat k < Int.ofNat ops.length by simp; omega), c2, c1, coG2_of (hf _ (List.getElem_mem hk)), w64_of (by simp; omega) (by simp; omega)] at h
    exact GoOK.code (RowOK.go (RowOK.of_seeA coΦ_ok (m := 20) (j := 20) (f := 10) (p := keeps 10) (ts := [0, 1, 4, 5]) rfl (so_dr2 _ _ _) h))
  have hend : GcOK Try.prog 0 0 29 (cpB 10 4) (soF (opsC ops) ops.length (Int.ofNat ops.length)) [] (.exit 0) (soF (opsC ops) ops.length (Int.ofNat ops.length)) [] := by
    have h := so_rnd coG coEE coG2 (opsC ops) ops.length ops.length
    rw [decide_eq_false (show ¬ Int.ofNat ops.length < Int.ofNat ops.length by simp), cond_false] at h
    exact GoOK.code (RowOK.go (RowOK.of_seeA coΦ_ok (m := 20) (j := 20) (f := 10) (p := keeps 10) (ts := [0, 1, 4, 5]) rfl (so_dr2 _ _ _) h))
  have lp := (GcOK.block (id := 0) (GcOK.loop (P := Try.prog) (lo := 0) (base := 0) (n := 29) (c := cpB 10 4) (fun k => soF (opsC ops) ops.length (Int.ofNat k)) (fun _ => []) ops.length (e := .exit 0) (by intro h; cases h) rnd hend)).row
  have tl := RowOK.go (base := 0) (RowOK.of_seeA (F2 := [(4, .bool true)]) coΦ_ok (m := 20) (j := 20) (f := 10) (p := keeps 10) (lo := 0) (n := 29) (ts := [4]) rfl (so_dr3 _ _ _) (so_tail coG coEE coG2 (opsC ops) ops.length (Int.ofNat ops.length)))
  have all := hd.app (GoOK.app lp tl)
  rw [← so_flat] at all
  have hc := CallOK.of_go noOK (f := 10) (fn := fn) (c := bodyOf 10) (args := [gs 13 (opsC ops) ops.length, gs 13 (opsC ops) ops.length]) (l := [.bool true]) (H := []) f1 f2 (by rw [f3]; simp) (by rw [f3]; exact GoOK.code all) (.inr rfl) (by rw [f4]; rfl)
  exact PureOK.of_call hc (Gh.plain rfl)
end Go.Proofs.Ytbcikaoklpekhaa.Ab
