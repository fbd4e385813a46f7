/- corrallaw5.AsmFirst answers true: the first line that is none is named, whatever stands behind it. -/
import Derived.Test.YtgkicojmgokinaaGreatDoorAsmProg
namespace Go.Proofs.YtgkicojmgokinaaGreatDoor.Ab
open Go Go.RowKit
set_option linter.unusedVariables false
set_option linter.unusedSimpArgs false
set_option maxRecDepth 100000
/-- A call, by its body told in pieces, of a function of the program. -/
theorem CallOK.of_go2 {C : Ctx} {P : Program} {lo : Nat} {H H' : Heap} {F' : Fr} {e : Exit} (hC : CtxOK P C) {f : Nat} {fn : Func} {c : Code} {args l : List Value} (hf1 : P.funcs[f]? = some fn) (hc : fn.body = some c) (hle : args.length ≤ fn.ntmps)
    (h : GcOK P lo H.length fn.ntmps c (enterF 0 args) H e F' H') (he : e = .normal ∨ e = .ret) (hr : resA C.T F' H' fn.results.toList = some l) : CallOK P lo f args H (tupleA l) H' := by
  intro M w rargs hR hv
  refine calls_of_wp hf1 hc ?_
  have hrl : rargs.length ≤ fn.ntmps := by rw [← hv.length]; exact hle
  refine h M w M _ w hR.len ⟨hR, enterF_FR hv _, by simp; omega, rfl, Ext.refl _ _ _, Keep.refl _ _ _⟩ _ fun M' a' w' hA => ?_
  obtain ⟨rv, h3, h4⟩ := results_sound hC hA.rel hA.fr hr
  rcases he with rfl | rfl
  · exact ⟨hA.defers, rv, h4, M', rv, rfl, h3, hA.ext, hA.rel, hA.keep⟩
  · exact ⟨hA.defers, rv, h4, M', rv, rfl, h3, hA.ext, hA.rel, hA.keep⟩
def bodyIn (fn : Func) : Code := match fn.body with | some c => c | none => .skip
theorem bodyIn_eq {fn : Func} (h : fn.body.isSome = true) : fn.body = some (bodyIn fn) := by
  unfold bodyIn
  cases hb : fn.body with
  | none => rw [hb] at h; cases h
  | some c => rfl
def opsIn : Option Code → Array Oper
  | some (.region _ ops _) => ops
  | _ => #[]
noncomputable def body7 : Code := bodyIn Tryz.f7
noncomputable def P7 (k l : Nat) : List Code := ((flat body7).drop k).take l
noncomputable def B7 : Code := loopIn (flat body7)[9]?
noncomputable def ops7 : Array Oper := opsIn (flat body7)[12]?
theorem f7_flat : flat body7 = P7 0 7 ++ (P7 7 2 ++ ([.block 0 (.loop B7)] ++ (P7 10 2 ++ ([.region 14 ops7 true] ++ (P7 13 1 ++ P7 14 6))))) := by kernel_rfl
/-! ### What the calls answer -/
noncomputable def f7Φ (Qo : ByteArray → Bool) (Qi : ByteArray → Inst) (G : Value → Int → Bool) (k : Int) : Oracle := fun lo f args H => match f with
  | 8 => match args with
    | [] => some [(true, .bool true, H)]
    | _ => none
  | 12 => match args with
    | [.string s] => some [(ln s && Qo s, .tuple #[instV (Qi s), .nilIface], H), (ln s && !Qo s, .tuple #[instV noInst, errV 0], H)]
    | _ => none
  | 17 => match lo, args, H with
    | 0, [v], [] => some [(G v k, .tuple #[nilV, .iface 89 (ptr 0)], [some ⟨prE k, 91, none⟩])]
    | _, _, _ => none
  | _ => none
noncomputable def isBad (v : Value) (k : Int) : Bool := @decide (CallOK Tryz.prog 0 17 [v] [] (.tuple #[nilV, .iface 89 (ptr 0)]) [some ⟨prE k, 91, none⟩]) (Classical.propDecidable _)
theorem f7Φ_ok (k : Int) : CtxOK Tryz.prog (ctx (f7Φ parB parI isBad k)) := ctxOK fun lo f args H l v H' h hm => by
  unfold f7Φ at h
  split at h
  · split at h
    · cases h
      simp only [List.mem_cons, List.not_mem_nil, or_false, Prod.mk.injEq] at hm
      obtain ⟨hc, rfl, rfl⟩ := hm
      exact ⟨firstOK.call (fun a h => by cases h) lo H', rfl⟩
    · cases h
  · split at h
    · cases h
      simp only [List.mem_cons, List.not_mem_nil, or_false, Prod.mk.injEq] at hm
      rcases hm with ⟨hc, rfl, rfl⟩ | ⟨hc, rfl, rfl⟩
      · exact ⟨par1 hc.symm lo H', rfl⟩
      · exact ⟨par2 hc.symm lo H', rfl⟩
    · cases h
  · split at h
    · cases h
      simp only [List.mem_cons, List.not_mem_nil, or_false, Prod.mk.injEq] at hm
      obtain ⟨hc, rfl, rfl⟩ := hm
      exact ⟨@of_decide_eq_true _ (Classical.propDecidable _) hc.symm, rfl⟩
    · cases h
  · cases h

/-! ### Its pieces, run -/
noncomputable def run7 (Qo : ByteArray → Bool) (Qi : ByteArray → Inst) (G : Value → Int → Bool) (z : Int) (l : List Code) (F : Fr) (H : Heap) (see : Exit → Fr → Heap → Res) : Res :=
  runL ((ctx2 (f7Φ Qo Qi G z)).at_ 7) (callK (ctx2 (f7Φ Qo Qi G z)) 20) 20 0 88 7 (fun _ => true) l F H see
def ecS : ByteArray := ⟨#[101, 99, 97, 108, 108]⟩
def nopS : ByteArray := ⟨#[110, 111, 112]⟩
def n30 (n : Int) : Int := (w64 (n.tmod 30 + 30)).tmod 30
section
variable (Qo : ByteArray → Bool) (Qi : ByteArray → Inst) (G : Value → Int → Bool) (z : Int)
theorem f7_a (n b : Int) (s : ByteArray) : run7 Qo Qi G z (P7 0 7) (enterF 0 [.int .i64 n, .int .i64 b, .string s]) [] (seeV [6]) =
    bif decide (Int.ofNat s.size > 60) then some (.ret, [some (.bool true)], []) else some (.normal, [some (.bool false)], []) := by kernel_rfl
theorem f7_b (n b : Int) (s : ByteArray) : run7 Qo Qi G z (P7 0 7) (enterF 0 [.int .i64 n, .int .i64 b, .string s]) [] (seeV [0, 1, 2]) =
    bif decide (Int.ofNat s.size > 60) then some (.ret, [some (.int .i64 (n30 n)), some (.int .i64 b), some (.string s)], []) else some (.normal, [some (.int .i64 (n30 n)), some (.int .i64 b), some (.string s)], []) := by kernel_rfl
def k7F (n b : Int) (s : ByteArray) (l : Value) : Fr := [(0, .int .i64 n), (1, .int .i64 b), (2, .string s), (8, l)]
def k7L (n b : Int) (s : ByteArray) (l : Value) (k : Int) : Fr := [(0, .int .i64 n), (1, .int .i64 b), (2, .string s), (8, l), (9, .int .i64 k)]
theorem f7_c (n b : Int) (s : ByteArray) : run7 Qo Qi G z (P7 7 2) [(0, .int .i64 n), (1, .int .i64 b), (2, .string s)] [] (seeA [0, 1, 2, 8, 9]) =
    some (.normal, (k7L n b s nilV 0).map (fun e => some e.2), []) := by kernel_rfl
theorem f7_r0 (n b : Int) (s : ByteArray) (K : Nat) : run7 Qo Qi G z (flat B7) (k7L n b s nilV (Int.ofNat K)) [] (seeA [0, 1, 2, 8, 9]) =
    bif decide (Int.ofNat K < n) then some (.normal, (k7L n b s (sl 1 1 1) (w64 (Int.ofNat K + 1))).map (fun e => some e.2), [some ⟨[.string ecS], 9, none⟩, some ⟨[.string ecS], 9, none⟩])
    else some (.exit 0, (k7L n b s nilV (Int.ofNat K)).map (fun e => some e.2), []) := by kernel_rfl
theorem f7_r1 (n b : Int) (s : ByteArray) (K m : Nat) (ws : List Value) : run7 Qo Qi G z (flat B7) (k7L n b s (sl 0 (m + 1) 1) (Int.ofNat K)) [some ⟨ws, 9, none⟩] (seeA [0, 1, 2, 8, 9]) =
    bif decide (Int.ofNat K < n) then bif moreG ws.length (m + 1) 1 16 then some (.normal, (k7L n b s (sl 2 (m + 1 + 1) 1) (w64 (Int.ofNat K + 1))).map (fun e => some e.2), [none, some ⟨[.string ecS], 9, none⟩, some ⟨ws ++ [.string ecS], 9, none⟩]) else none
    else some (.exit 0, (k7L n b s (sl 0 (m + 1) 1) (Int.ofNat K)).map (fun e => some e.2), [some ⟨ws, 9, none⟩]) := by kernel_rfl
def badAt (n b : Int) : Int := (w64 (w64 (b.tmod (w64 (n + 1)) + n) + 1)).tmod (w64 (n + 1))
theorem f7_p (n b : Int) (s : ByteArray) (l : Value) : run7 Qo Qi G z (P7 10 2) (k7F n b s l) [] (seeV [0, 1, 2, 8, 11]) =
    bif !(w64 (n + 1) == 0) then bif !(w64 (n + 1) == 0) then bif ln s && Qo s then some (.normal, [some (.int .i64 n), some (.int .i64 (badAt n b)), some (.string s), some l, some .nilIface], [])
    else bif ln s && !Qo s then some (.normal, [some (.int .i64 n), some (.int .i64 (badAt n b)), some (.string s), some l, some (errV 0)], []) else none else none else none := by kernel_rfl
theorem f7_n (b : Int) (ws : List Value) (M : Nat) (x : Value) : run7 Qo Qi G z (P7 13 1) [(1, .int .i64 b), (8, sl 0 M 1), (11, x)] [some ⟨ws, 9, none⟩] (seeA [1, 8, 11]) =
    bif moreG ws.length M 1 16 then some (.normal, [some (.int .i64 b), some (sl 2 (M + 1) 1), some x], [none, some ⟨[.string nopS], 9, none⟩, some ⟨ws ++ [.string nopS], 9, none⟩]) else none := by kernel_rfl
theorem f7_e0 (b : Int) (ss : List ByteArray) : run7 Qo Qi G z (P7 14 6) [(1, .int .i64 b), (8, LS ss), (11, .nilIface)] [] (seeV [6]) =
    bif G (LS ss) z then bif z == w64 (Int.ofNat ss.length - 1) then some (.ret, [some (.bool true)], []) else some (.ret, [some (.bool false)], []) else none := by kernel_rfl
theorem f7_e1 (b : Int) (ss : List ByteArray) : run7 Qo Qi G z (P7 14 6) [(1, .int .i64 b), (8, LS ss), (11, errV 0)] [] (seeV [6]) =
    bif G (LS ss) z then bif z == b then some (.ret, [some (.bool true)], []) else some (.ret, [some (.bool false)], []) else none := by kernel_rfl
theorem f7_dr (k l : Nat) (h : (P7 k l).all (drawsOK (drs2 7)) = true) : (P7 k l).all (drawsOK ((ctx2 (f7Φ Qo Qi G z)).dr 7)) = true := h
end
theorem f7_d1 : (P7 0 7).all (drawsOK (drs2 7)) = true := by kernel_rfl
theorem f7_d2 : (P7 7 2).all (drawsOK (drs2 7)) = true := by kernel_rfl
theorem f7_d3 : (flat B7).all (drawsOK (drs2 7)) = true := by kernel_rfl
theorem f7_d4 : (P7 10 2).all (drawsOK (drs2 7)) = true := by kernel_rfl
theorem f7_d5 : (P7 13 1).all (drawsOK (drs2 7)) = true := by kernel_rfl
theorem f7_d6 : (P7 14 6).all (drawsOK (drs2 7)) = true := by kernel_rfl
/-! ### The row put together: two makers in any order -/
def T7 : OT := .two 0 6 (.two 4 6 (.seq 6 (.seq 7 (.seq 11 (.seq 12 .done)))) (.seq 4 (.seq 7 (.seq 11 (.seq 12 .done))))) (.seq 0 (.seq 4 (.seq 7 (.seq 11 (.seq 12 .done)))))
def pre7 : List Nat := [1, 2, 3, 5, 8, 9, 10]
theorem ord7 : ordOK ops7 pre7 T7 = true := by kernel_rfl
def c7a (ws : List Value) (B : Nat) : List Value := ws.take (B * 1)
def c7b (ws : List Value) (B : Nat) (s : ByteArray) : List Value := c7a ws B ++ [.string s]
def c7d (ws : List Value) (B N : Nat) : List Value := (ws.drop (B * 1)).take ((N - B) * 1)
def c7 (ws : List Value) (B N : Nat) (s : ByteArray) : List Value := c7b ws B s ++ c7d ws B N
def okN (m : Nat) : Bool := Nat.ble (m * 16) 140737488355328 && Nat.ble m 9223372036854775807
def n7 (B N : Nat) : Nat := 0 + B + (0 + 1) + (N - B)
def o7 (b : Int) (s : ByteArray) (ws : List Value) (B N : Nat) (x : Value) (H : Heap) : Option (List Seen) :=
  bif (c7a ws B).all one && okN (0 + B) then bif Nat.beq (c7a ws B).length ((0 + B) * 1) && okN (0 + B + (0 + 1)) then bif Nat.beq (c7b ws B s).length ((0 + B + (0 + 1)) * 1) && ((c7d ws B N).all one && okN (n7 B N)) then
    some [([some (.int .i64 b), some (sl 4 (n7 B N) 1), some x], H)] else none else none else none
theorem f7_o (s : ByteArray) (ws : List Value) (B N : Nat) (n : Int) (x : Value) : headK (ctx2 noΦ) 88 ops7.toList [] pre7 [(0, .int .i64 n), (1, .int .i64 (Int.ofNat B)), (2, .string s), (8, gs 1 ws N), (11, x)] (fun F0 => ordK (ctx2 noΦ) (callK (ctx2 noΦ) 20) 0 88 ops7.toList T7 F0 [] (leafO [1, 8, 11])) =
    bif Nat.ble B N && true then bif Nat.ble B N && (Nat.ble N N && true) then
      both (both (o7 (Int.ofNat B) s ws B N x [none, none, some ⟨[.string s], 9, none⟩, none, some ⟨c7 ws B N s, 9, none⟩]) (o7 (Int.ofNat B) s ws B N x [none, some ⟨[.string s], 9, none⟩, none, none, some ⟨c7 ws B N s, 9, none⟩]))
        (o7 (Int.ofNat B) s ws B N x [some ⟨[.string s], 9, none⟩, none, none, none, some ⟨c7 ws B N s, 9, none⟩]) else none else none := by kernel_rfl
end Go.Proofs.YtgkicojmgokinaaGreatDoor.Ab
namespace Go.Proofs.YtgkicojmgokinaaGreatDoor.Ab
open Go Go.RowKit
set_option linter.unusedVariables false
set_option linter.unusedSimpArgs false
set_option maxRecDepth 100000
/-! ### Its numbers -/
theorem n30_of (n : Int) : ∃ N : Nat, N < 30 ∧ n30 n = Int.ofNat N := by
  have h1 := Int.tmod_lt_of_pos n (show (0 : Int) < 30 by decide)
  have h2 := tmod_gt n (show (0 : Int) < 30 by decide)
  have e : w64 (n.tmod 30 + 30) = n.tmod 30 + 30 := w64_of (by omega) (by omega)
  have h3 := Int.tmod_lt_of_pos (n.tmod 30 + 30) (show (0 : Int) < 30 by decide)
  have h4 := Int.tmod_nonneg 30 (show (0 : Int) ≤ n.tmod 30 + 30 by omega)
  refine ⟨(n30 n).toNat, ?_, ?_⟩
  · unfold n30; rw [e]; omega
  · have : 0 ≤ n30 n := by unfold n30; rw [e]; exact h4
    show n30 n = ((n30 n).toNat : Int)
    omega
theorem badAt_of (N : Nat) (hN : N < 30) (b : Int) : w64 (Int.ofNat N + 1) = Int.ofNat (N + 1) ∧ ∃ B : Nat, B ≤ N ∧ badAt (Int.ofNat N) b = Int.ofNat B := by
  have e1 : w64 (Int.ofNat N + 1) = Int.ofNat (N + 1) := w64_of (by simp; omega) (by simp; omega)
  have hp : (0 : Int) < Int.ofNat (N + 1) := by simp only [Int.ofNat_eq_natCast]; omega
  have h1 := Int.tmod_lt_of_pos b hp
  have h2 := tmod_gt b hp
  simp only [Int.ofNat_eq_natCast] at *
  have e2 : w64 (b.tmod ((N + 1 : Nat) : Int) + (N : Int)) = b.tmod ((N + 1 : Nat) : Int) + (N : Int) := by
    unfold w64; rw [IntKind.wrap_i64]; omega
  have e3 : w64 (b.tmod ((N + 1 : Nat) : Int) + (N : Int) + 1) = b.tmod ((N + 1 : Nat) : Int) + (N : Int) + 1 := w64_of (by omega) (by omega)
  have eb : badAt (N : Int) b = (b.tmod ((N + 1 : Nat) : Int) + (N : Int) + 1).tmod ((N + 1 : Nat) : Int) := by
    unfold badAt; rw [e1, e2, e3]
  have h3 := Int.tmod_lt_of_pos (b.tmod ((N + 1 : Nat) : Int) + (N : Int) + 1) hp
  have h4 := Int.tmod_nonneg ((N + 1 : Nat) : Int) (show (0 : Int) ≤ b.tmod ((N + 1 : Nat) : Int) + (N : Int) + 1 by omega)
  exact ⟨e1, (badAt (N : Int) b).toNat, by omega, by omega⟩
/-! ### The loop -/
def ec (k : Nat) : List Value := List.replicate k (Value.string ecS)
theorem ec_gh (k : Nat) : ∀ x ∈ ec k, Gh x := fun x hx => by
  rw [List.eq_of_mem_replicate hx]; exact gh_str _
def l7H (k : Nat) : Heap := match k with
  | 0 => []
  | k + 1 => [some ⟨ec (k + 1), 9, none⟩]
def l7F (N : Nat) (b : Int) (s : ByteArray) (k : Nat) : Fr := k7L (Int.ofNat N) b s (sliV 0 k 1) (Int.ofNat k)
theorem ec_succ (k : Nat) : ec (k + 1) = ec k ++ [.string ecS] := by unfold ec; rw [List.replicate_succ']
theorem l7_slots {n b k : Int} {s : ByteArray} (j m : Nat) : ∀ e ∈ k7L n b s (sl 0 (m + 1) 1) k, ((k7L n b s (sl j (m + 1) 1) k).get e.1 = some e.2 ∧ Gh e.2) ∨ ∃ m' z, 0 < z ∧ (k7L n b s (sl j (m + 1) 1) k).get e.1 = some (.slice (some ⟨j, 0, none⟩) m' z) ∧ e.2 = .slice (some ⟨0, 0, none⟩) m' z := fun e he => by
  simp only [k7L, List.mem_cons, List.not_mem_nil, or_false] at he
  rcases he with rfl | rfl | rfl | rfl | rfl
  · exact .inl ⟨rfl, gh_int _ _⟩
  · exact .inl ⟨rfl, gh_int _ _⟩
  · exact .inl ⟨rfl, gh_str _⟩
  · exact .inr ⟨m + 1, 1, by omega, rfl, rfl⟩
  · exact .inl ⟨rfl, gh_int _ _⟩
theorem l7_round {N : Nat} (hN : N < 30) (b : Int) (s : ByteArray) {k : Nat} (hk : k < N) : GcOK Tryz.prog 0 0 88 B7 (l7F N b s k) (l7H k) .normal (l7F N b s (k + 1)) (l7H (k + 1)) := by
  have hd : decide (Int.ofNat k < Int.ofNat N) = true := decide_eq_true (by simp; omega)
  have ew : w64 (Int.ofNat k + 1) = Int.ofNat (k + 1) := w64_of (by simp; omega) (by simp; omega)
  cases k with
  | zero =>
    have h := f7_r0 parB parI isBad 0 (Int.ofNat N) b s 0
    rw [hd, cond_true, ew] at h
    have r := RowOK.go (base := 0) (RowOK.of_seeA (ctx2OK (f7Φ_ok 0)) (m := 20) (j := 20) (f := 7) (p := fun _ => true) (ts := [0, 1, 2, 8, 9]) rfl f7_d3 h)
    exact GoOK.code (GoOK.one r 1 rfl rfl (ec_gh 1) (l7_slots 1 0))
  | succ m =>
    have h := f7_r1 parB parI isBad 0 (Int.ofNat N) b s (m + 1) m (ec (m + 1))
    rw [hd, cond_true, ew, moreG_eq (by unfold ec; rw [List.length_replicate]; omega) (by omega) (by omega), cond_true, ← ec_succ] at h
    have r := RowOK.go (base := 0) (RowOK.of_seeA (ctx2OK (f7Φ_ok 0)) (m := 20) (j := 20) (f := 7) (p := fun _ => true) (ts := [0, 1, 2, 8, 9]) rfl f7_d3 h)
    exact GoOK.code (GoOK.one r 2 rfl rfl (ec_gh _) (l7_slots 2 (m + 1)))
theorem l7_end (N : Nat) (b : Int) (s : ByteArray) : GcOK Tryz.prog 0 0 88 B7 (l7F N b s N) (l7H N) (.exit 0) (l7F N b s N) (l7H N) := by
  have hd : decide (Int.ofNat N < Int.ofNat N) = false := decide_eq_false (by simp)
  cases N with
  | zero =>
    have h := f7_r0 parB parI isBad 0 (Int.ofNat 0) b s 0
    rw [hd, cond_false] at h
    exact GoOK.code (RowOK.go (RowOK.of_seeA (ctx2OK (f7Φ_ok 0)) (m := 20) (j := 20) (f := 7) (p := fun _ => true) (ts := [0, 1, 2, 8, 9]) rfl f7_d3 h))
  | succ m =>
    have h := f7_r1 parB parI isBad 0 (Int.ofNat (m + 1)) b s (m + 1) m (ec (m + 1))
    rw [hd, cond_false] at h
    exact GoOK.code (RowOK.go (RowOK.of_seeA (ctx2OK (f7Φ_ok 0)) (m := 20) (j := 20) (f := 7) (p := fun _ => true) (ts := [0, 1, 2, 8, 9]) rfl f7_d3 h))
def ecs (N : Nat) : List ByteArray := List.replicate N ecS
theorem ecs_map (N : Nat) : (ecs N).map Value.string = ec N := by simp [ecs, ec]
theorem l7_all {N : Nat} (hN : N < 30) (b : Int) (s : ByteArray) : GoOK Tryz.prog 0 0 88 [.block 0 (.loop B7)] (l7F N b s 0) (l7H 0) .normal (k7F (Int.ofNat N) b s (LS (ecs N))) [] := by
  have lp := (GcOK.block (id := 0) (GcOK.loop (P := Tryz.prog) (lo := 0) (base := 0) (n := 88) (c := B7) (l7F N b s) l7H N (e := .exit 0) (by intro h; cases h) (fun j hj => l7_round hN b s hj) (l7_end N b s))).row
  refine GoOK.freeze lp fun e he => ?_
  simp only [k7F, List.mem_cons, List.not_mem_nil, or_false] at he
  rcases he with rfl | rfl | rfl | rfl
  · exact ⟨_, rfl, .inl ⟨rfl, gh_int _ _⟩⟩
  · exact ⟨_, rfl, .inl ⟨rfl, gh_int _ _⟩⟩
  · exact ⟨_, rfl, .inl ⟨rfl, gh_str _⟩⟩
  · refine ⟨sliV 0 N 1, rfl, ?_⟩
    cases N with
    | zero => exact .inr (.inr ⟨1, rfl, rfl⟩)
    | succ m =>
      have lcl : (ec (m + 1)).length = (m + 1) * 1 := by unfold ec; rw [List.length_replicate]; omega
      refine .inr (.inl ⟨0, m + 1, 1, ec (m + 1), 9, by omega, rfl, rfl, by rw [lcl]; exact Nat.le_refl _, ec_gh _, ?_⟩)
      rw [List.take_of_length_le (by rw [lcl]; exact Nat.le_refl _)]
      unfold LS; rw [ecs_map]
      show gs 1 _ (ecs (m + 1)).length = _
      rw [show (ecs (m + 1)).length = m + 1 by simp [ecs]]
/-! ### The row put together -/
theorem okN_of {m : Nat} (h : m ≤ 1000) : okN m = true := by
  simp only [okN, Bool.and_eq_true]
  exact ⟨Nat.ble_eq_true_of_le (by omega), Nat.ble_eq_true_of_le (by omega)⟩
theorem one_strs (l : List ByteArray) : (l.map Value.string).all one = true := by
  rw [List.all_eq_true]; intro x hx
  obtain ⟨n, _, rfl⟩ := List.mem_map.1 hx; rfl
def L7 (B N : Nat) (s : ByteArray) : List ByteArray := (ecs N).take B ++ [s] ++ (ecs N).drop B
theorem c7_map {B N : Nat} (hB : B ≤ N) (s : ByteArray) : c7 (ec N) B N s = (L7 B N s).map Value.string := by
  unfold c7 c7b c7a c7d L7
  rw [← ecs_map, Nat.mul_one, List.map_append, List.map_append, List.map_take, List.map_drop, Nat.mul_one, List.take_of_length_le (l := ((ecs N).map Value.string).drop B) (by simp [ecs])]
  rfl
theorem L7_len {B N : Nat} (hB : B ≤ N) (s : ByteArray) : (L7 B N s).length = N + 1 := by simp [L7, ecs]; omega
theorem n7_eq {B N : Nat} (hB : B ≤ N) : n7 B N = N + 1 := by unfold n7; omega
theorem o7_eq {B N : Nat} (hN : N < 30) (hB : B ≤ N) (b : Int) (s : ByteArray) (x : Value) (H : Heap) : o7 b s (ec N) B N x H = some [([some (.int .i64 b), some (sl 4 (n7 B N) 1), some x], H)] := by
  have l1 : (c7a (ec N) B).length = B := by simp [c7a, ec]; omega
  have l2 : (c7b (ec N) B s).length = B + 1 := by simp [c7b, l1]
  have g1 : (c7a (ec N) B).all one = true := by
    rw [List.all_eq_true]; intro y hy
    have := List.mem_of_mem_take hy
    rw [List.eq_of_mem_replicate this]; rfl
  have g2 : (c7d (ec N) B N).all one = true := by
    rw [List.all_eq_true]; intro y hy
    have := List.mem_of_mem_drop (List.mem_of_mem_take hy)
    rw [List.eq_of_mem_replicate this]; rfl
  unfold o7
  rw [g1, g2, l1, l2, okN_of (by omega), okN_of (by omega), okN_of (by unfold n7; omega), show Nat.beq B ((0 + B) * 1) = true by simp, show Nat.beq (B + 1) ((0 + B + (0 + 1)) * 1) = true by simp]
  rfl
theorem ord_row {B N : Nat} (hN : N < 30) (hB : B ≤ N) (s : ByteArray) (x : Value) (hx : Gh x) : GoOK Tryz.prog 0 0 88 [.region 14 ops7 true] [(0, .int .i64 (Int.ofNat N)), (1, .int .i64 (Int.ofNat B)), (2, .string s), (8, LS (ecs N)), (11, x)] [] .normal
    [(1, .int .i64 (Int.ofNat B)), (8, sl 0 (N + 1) 1), (11, x)] [some ⟨(L7 B N s).map Value.string, 9, none⟩] := by
  have h := f7_o s (ec N) B N (Int.ofNat N) x
  have hb : Nat.ble B N = true := Nat.ble_eq_true_of_le hB
  have hn : Nat.ble N N = true := Nat.ble_eq_true_of_le (Nat.le_refl _)
  rw [hb, hn, o7_eq hN hB, o7_eq hN hB, o7_eq hN hB] at h
  simp only [Bool.and_self, cond_true, both] at h
  have eL : LS (ecs N) = gs 1 (ec N) N := by unfold LS; rw [ecs_map]; congr 1; simp [ecs]
  rw [eL, ← n7_eq hB, ← c7_map hB]
  refine GoOK.ord (ctx2OK noOK) (m := 20) (ts := [1, 8, 11]) ord7 h fun y hy M0 w0 M' a' w' F' h0 hts hA => ?_
  have fin : ∀ (H : Heap), H[4]? = some (some ⟨c7 (ec N) B N s, 9, none⟩) → y = ([some (.int .i64 (Int.ofNat B)), some (sl 4 (n7 B N) 1), some x], H) → ∃ M2, AtG 0 M0 w0 88 M2 [(1, .int .i64 (Int.ofNat B)), (8, sl 0 (n7 B N) 1), (11, x)] [some ⟨c7 (ec N) B N s, 9, none⟩] a' w' := by
    intro H hH e
    subst e
    simp only [List.map_cons, List.map_nil, List.cons.injEq, and_true] at hts
    obtain ⟨h1, h8, h11⟩ := hts
    refine hA.pick h0 4 hH rfl (by rw [c7_map hB]; exact strs_gh _) fun e he => ?_
    simp only [List.mem_cons, List.not_mem_nil, or_false] at he
    rcases he with rfl | rfl | rfl
    · exact .inl ⟨h1, gh_int _ _⟩
    · exact .inr (.inl ⟨_, 1, by omega, h8, rfl⟩)
    · exact .inl ⟨h11, hx⟩
  simp only [List.mem_append, List.mem_cons, List.not_mem_nil, or_false] at hy
  rcases hy with (rfl | rfl) | rfl
  · exact fin _ rfl rfl
  · exact fin _ rfl rfl
  · exact fin _ rfl rfl
/-! ### The end -/
def L7n (B N : Nat) (s : ByteArray) : List ByteArray := L7 B N s ++ [nopS]
theorem nop_row {B N : Nat} (hN : N < 30) (hB : B ≤ N) (s : ByteArray) (x : Value) (hx : Gh x) : GoOK Tryz.prog 0 0 88 (P7 13 1) [(1, .int .i64 (Int.ofNat B)), (8, sl 0 (N + 1) 1), (11, x)] [some ⟨(L7 B N s).map Value.string, 9, none⟩] .normal
    [(1, .int .i64 (Int.ofNat B)), (8, LS (L7n B N s)), (11, x)] [] := by
  have h := f7_n parB parI isBad 0 (Int.ofNat B) ((L7 B N s).map Value.string) (N + 1) x
  have hl : ((L7 B N s).map Value.string).length = N + 1 := by rw [List.length_map, L7_len hB]
  rw [moreG_eq (by rw [hl]; omega) (by omega) (by omega), cond_true] at h
  have r := RowOK.go (base := 0) (RowOK.of_seeA (F2 := [(1, .int .i64 (Int.ofNat B)), (8, sl 2 (N + 1 + 1) 1), (11, x)]) (ctx2OK (f7Φ_ok 0)) (m := 20) (j := 20) (f := 7) (p := fun _ => true) (ts := [1, 8, 11]) rfl f7_d5 h)
  refine GoOK.freeze r fun e he => ?_
  simp only [List.mem_cons, List.not_mem_nil, or_false] at he
  rcases he with rfl | rfl | rfl
  · exact ⟨_, rfl, .inl ⟨rfl, gh_int _ _⟩⟩
  · have e1 : (L7 B N s).map Value.string ++ [.string nopS] = (L7n B N s).map Value.string := by simp [L7n]
    have lcl : ((L7n B N s).map Value.string).length = (N + 1 + 1) * 1 := by simp [L7n, L7_len hB]
    refine ⟨_, rfl, .inr (.inl ⟨2, N + 1 + 1, 1, (L7n B N s).map Value.string, 9, by omega, rfl, by rw [← e1]; rfl, by rw [lcl]; exact Nat.le_refl _, strs_gh _, ?_⟩)⟩
    rw [List.take_of_length_le (by rw [lcl]; exact Nat.le_refl _)]
    unfold LS
    congr 1
    simp [L7n, L7_len hB]
  · exact ⟨_, rfl, .inl ⟨rfl, hx⟩⟩
theorem ec_par : parB ecS = true := by kernel_rfl
theorem nop_par : parB nopS = false := by kernel_rfl
theorem L7_get {B N : Nat} (hB : B ≤ N) (s : ByteArray) (j : Nat) : (L7n B N s).getD j noS = if j < B then ecS else if j = B then s else if j < N + 1 then ecS else if j = N + 1 then nopS else noS := by
  unfold L7n L7 ecs
  rw [List.take_replicate, List.drop_replicate, Nat.min_eq_left hB, List.getD_eq_getElem?_getD]
  by_cases h1 : j < B
  · rw [if_pos h1, List.getElem?_append_left (by simp; omega), List.getElem?_append_left (by simp; omega), List.getElem?_append_left (by simp; omega), List.getElem?_replicate, if_pos h1]; rfl
  rw [if_neg h1]
  by_cases h2 : j = B
  · subst h2
    rw [if_pos rfl, List.getElem?_append_left (by simp), List.getElem?_append_left (by simp), List.getElem?_append_right (by simp)]
    simp
  rw [if_neg h2]
  by_cases h3 : j < N + 1
  · rw [if_pos h3, List.getElem?_append_left (by simp; omega), List.getElem?_append_right (by simp; omega), List.getElem?_replicate, if_pos (by simp; omega)]; rfl
  rw [if_neg h3]
  by_cases h4 : j = N + 1
  · subst h4
    rw [if_pos rfl, List.getElem?_append_right (by simp; omega)]
    rw [show (N + 1 - (List.replicate B ecS ++ [s] ++ List.replicate (N - B) ecS).length) = 0 by simp; omega]
    rfl
  · rw [if_neg h4, List.getElem?_eq_none (by simp; omega)]; rfl
theorem L7_short {B N : Nat} (hN : N < 30) (hB : B ≤ N) {s : ByteArray} (hs : s.size ≤ 60) : Short (L7n B N s) := by
  refine ⟨by simp [L7n, L7_len hB]; omega, fun x hx => ?_⟩
  simp only [L7n, L7, ecs, List.mem_append, List.mem_singleton] at hx
  have he : ecS.size ≤ 100000 := by decide
  have hn : nopS.size ≤ 100000 := by decide
  rcases hx with ((h | rfl) | h) | rfl
  · rw [List.eq_of_mem_replicate (List.mem_of_mem_take h)]; exact he
  · omega
  · rw [List.eq_of_mem_replicate (List.mem_of_mem_drop h)]; exact he
  · exact hn
theorem asmFirst_call (n b : Int) (s : ByteArray) : CallOK Tryz.prog 0 7 [.int .i64 n, .int .i64 b, .string s] [] (.bool true) [] := by
  have fin : ∀ (h : GoOK Tryz.prog 0 0 88 (flat body7) (enterF 0 [.int .i64 n, .int .i64 b, .string s]) [] .ret [(6, .bool true)] []), CallOK Tryz.prog 0 7 [.int .i64 n, .int .i64 b, .string s] [] (.bool true) [] := fun h =>
    CallOK.of_go2 noOK (f := 7) (fn := Tryz.f7) (c := body7) (args := [.int .i64 n, .int .i64 b, .string s]) (l := [.bool true]) Tryz.func7 (bodyIn_eq (by kernel_rfl)) (of_decide_eq_true (by kernel_rfl)) (GoOK.code h) (.inr rfl) (by kernel_rfl)
  apply fin
  rw [f7_flat]
  by_cases hs : s.size > 60
  · have h := f7_a parB parI isBad 0 n b s
    rw [show decide (Int.ofNat s.size > 60) = true from decide_eq_true (by simp; omega), cond_true] at h
    exact GoOK.left (GoOK.of_seeV (F2 := [(6, .bool true)]) (ctx2OK (f7Φ_ok 0)) (m := 20) (j := 20) (f := 7) (p := fun _ => true) (ts := [6]) rfl f7_d1 h (fun x hx => by simp at hx; subst hx; exact Gh.plain rfl)) (by intro h; cases h) _
  · obtain ⟨N, hN, eN⟩ := n30_of n
    obtain ⟨e1, B, hB, eB⟩ := badAt_of N hN b
    have h := f7_b parB parI isBad 0 n b s
    rw [show decide (Int.ofNat s.size > 60) = false from decide_eq_false (by simp; omega), cond_false, eN] at h
    have r1 := GoOK.of_seeV (F2 := [(0, .int .i64 (Int.ofNat N)), (1, .int .i64 b), (2, .string s)]) (ctx2OK (f7Φ_ok 0)) (m := 20) (j := 20) (f := 7) (p := fun _ => true) (ts := [0, 1, 2]) rfl f7_d1 h (fun x hx => by
      simp only [List.mem_cons, List.not_mem_nil, or_false] at hx
      rcases hx with rfl | rfl | rfl
      · exact gh_int _ _
      · exact gh_int _ _
      · exact gh_str _)
    have r2 := RowOK.go (base := 0) (RowOK.of_seeA (F2 := k7L (Int.ofNat N) b s nilV 0) (ctx2OK (f7Φ_ok 0)) (m := 20) (j := 20) (f := 7) (p := fun _ => true) (ts := [0, 1, 2, 8, 9]) rfl f7_d2 (f7_c parB parI isBad 0 (Int.ofNat N) b s))
    have r3 := l7_all hN b s
    have hw : (!(w64 (Int.ofNat N + 1) == 0)) = true := by
      rw [e1, Bool.not_eq_true', beq_eq_false_iff_ne]; simp; omega
    have hln : ln s = true := ln_of (by omega)
    have main : ∀ (x : Value) (k : Nat), Gh x → (∀ z, run7 parB parI isBad z (P7 10 2) (k7F (Int.ofNat N) b s (LS (ecs N))) [] (seeV [0, 1, 2, 8, 11]) = some (.normal, [some (.int .i64 (Int.ofNat N)), some (.int .i64 (Int.ofNat B)), some (.string s), some (LS (ecs N)), some x], [])) →
        run7 parB parI isBad (Int.ofNat k) (P7 14 6) [(1, .int .i64 (Int.ofNat B)), (8, LS (L7n B N s)), (11, x)] [] (seeV [6]) = some (.ret, [some (.bool true)], []) →
        GoOK Tryz.prog 0 0 88 (P7 0 7 ++ (P7 7 2 ++ ([.block 0 (.loop B7)] ++ (P7 10 2 ++ ([.region 14 ops7 true] ++ (P7 13 1 ++ P7 14 6)))))) (enterF 0 [.int .i64 n, .int .i64 b, .string s]) [] .ret [(6, .bool true)] [] := by
      intro x k hx hp he
      have r4 := GoOK.of_seeV (F2 := [(0, .int .i64 (Int.ofNat N)), (1, .int .i64 (Int.ofNat B)), (2, .string s), (8, LS (ecs N)), (11, x)]) (ctx2OK (f7Φ_ok 0)) (m := 20) (j := 20) (f := 7) (p := fun _ => true) (ts := [0, 1, 2, 8, 11]) rfl f7_d4 (hp 0) (fun y hy => by
        simp only [List.mem_cons, List.not_mem_nil, or_false] at hy
        rcases hy with rfl | rfl | rfl | rfl | rfl
        · exact gh_int _ _
        · exact gh_int _ _
        · exact gh_str _
        · exact LS_gh _
        · exact hx)
      have r7 := GoOK.of_seeV (F2 := [(6, .bool true)]) (ctx2OK (f7Φ_ok (Int.ofNat k))) (m := 20) (j := 20) (f := 7) (p := fun _ => true) (ts := [6]) rfl f7_d6 he (fun x hx => by simp at hx; subst hx; exact Gh.plain rfl)
      exact r1.app (r2.app (r3.app (r4.app ((ord_row hN hB s x hx).app ((nop_row hN hB s x hx).app r7)))))
    have bad : ∀ k : Nat, k < (L7n B N s).length → (∀ j, j < k → parB ((L7n B N s).getD j noS) = true) → parB ((L7n B N s).getD k noS) = false → isBad (LS (L7n B N s)) (Int.ofNat k) = true := fun k h1 h2 h3 =>
      @decide_eq_true _ (Classical.propDecidable _) (progBadC (L7_short hN hB (by omega)) h1 h2 h3)
    have len : (L7n B N s).length = N + 2 := by simp [L7n, L7_len hB]
    cases hq : parB s with
    | true =>
      have hb := bad (N + 1) (by omega) (fun j hj => by
          rw [L7_get hB]
          split
          · exact ec_par
          · split
            · exact hq
            · exact ec_par)
        (by rw [L7_get hB, if_neg (by omega), if_neg (by omega), if_neg (by omega), if_pos rfl]; exact nop_par)
      refine main .nilIface (N + 1) (Gh.plain rfl) (fun z => ?_) ?_
      · rw [f7_p, hw, eB, hln, hq]; rfl
      · rw [f7_e0, hb, len, show w64 (Int.ofNat (N + 2) - 1) = Int.ofNat (N + 1) by
          rw [w64_of (by simp only [Int.ofNat_eq_natCast]; omega) (by simp only [Int.ofNat_eq_natCast]; omega)]
          simp only [Int.ofNat_eq_natCast]; omega]
        simp
    | false =>
      have hb := bad B (by omega) (fun j hj => by rw [L7_get hB, if_pos hj]; exact ec_par) (by rw [L7_get hB, if_neg (by omega), if_pos rfl]; exact hq)
      refine main (errV 0) B (gh_err 0) (fun z => ?_) ?_
      · rw [f7_p, hw, eB, hln, hq]; rfl
      · rw [f7_e1, hb]
        simp
theorem asmFirstOK (n b : Int) (s : ByteArray) : PureOK Tryz.prog 7 [.int .i64 n, .int .i64 b, .string s] (.bool true) := PureOK.of_call (asmFirst_call n b s) (Gh.plain rfl)
end Go.Proofs.YtgkicojmgokinaaGreatDoor.Ab
