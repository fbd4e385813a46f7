/- Trimmed: AsmSayDig -/
import Derived.Test.YtgkicojmgokinaaGreatDoorAsmSame
namespace Go.Proofs.YtgkicojmgokinaaGreatDoor.Ab
open Go Go.RowKit
set_option linter.unusedVariables false
set_option linter.unusedSimpArgs false
set_option maxRecDepth 100000
def dgV (c : Int) : Int := bif decide (c ≥ 97) then IntKind.i64.wrap (IntKind.i64.wrap (IntKind.u8.wrap (c - 97)) + 10) else IntKind.i64.wrap (IntKind.u8.wrap (c - 48))
def dgX (base n d : Int) : Bool := decide (d < 0) || (decide (d ≥ base) || decide (n < IntKind.i64.wrap ((IntKind.i64.wrap (-9223372036854775808 + d)).tdiv base)))
def dgS (base n d : Int) : Int := IntKind.i64.wrap (IntKind.i64.wrap (n * base) - d)
def dgL (base : Int) : List UInt8 → Int → Option Int
  | [], n => some n
  | c :: r, n => bif dgX base n (dgV (c.toNat : Int)) then none else dgL base r (dgS base n (dgV (c.toNat : Int)))
def dgN (base : Int) (l : List UInt8) (n : Int) (k : Nat) : Int := (l.take k).foldl (fun n c => dgS base n (dgV (c.toNat : Int))) n
def digF (base : Int) (l : List UInt8) : Int × Bool :=
  match dgL base (bif l.head? == some 45 then l.tail else l) 0 with
  | none => (0, false)
  | some n => bif (bif l.head? == some 45 then l.tail else l).isEmpty then (0, false) else bif !(l.head? == some 45) && n == -9223372036854775808 then (0, false) else (bif l.head? == some 45 then n else IntKind.i64.wrap (0 - n), true)
theorem dgL_first (base : Int) : ∀ (l : List UInt8) (n : Int) (m : Nat), m ≤ l.length → (∀ k, k < m → dgX base (dgN base l n k) (dgV ((l.getD k 0).toNat : Int)) = false) → (m < l.length → dgX base (dgN base l n m) (dgV ((l.getD m 0).toNat : Int)) = true) →
    dgL base l n = if m < l.length then none else some (dgN base l n l.length)
  | [], n, m, h, _, _ => by simp [dgL, dgN]
  | c :: r, n, 0, h, h1, h2 => by
    have := h2 (by simp)
    simp only [dgN, List.take_zero, List.foldl_nil, List.getD_cons_zero] at this
    simp [dgL, this]
  | c :: r, n, m + 1, h, h1, h2 => by
    have h0 := h1 0 (by omega)
    simp only [dgN, List.take_zero, List.foldl_nil, List.getD_cons_zero] at h0
    have ih := dgL_first base r (dgS base n (dgV (c.toNat : Int))) m (by simpa using h) (fun k hk => by
      have := h1 (k + 1) (by omega)
      simpa only [dgN, List.take_succ_cons, List.foldl_cons, List.getD_cons_succ] using this) (fun hk => by
      have := h2 (by simpa using hk)
      simpa only [dgN, List.take_succ_cons, List.foldl_cons, List.getD_cons_succ] using this)
    simp only [dgL, h0, cond_false, ih, List.length_cons, Nat.add_lt_add_iff_right, dgN, List.take_succ_cons, List.foldl_cons]
theorem byteAt_bs {l : List UInt8} {k : Nat} (h : k < l.length) : byteAt (bs l) k = ((l.getD k 0).toNat : Int) := by
  rw [List.getD_eq_getElem?_getD, List.getElem?_eq_getElem h]
  unfold byteAt
  rw [getElem?_pos (bs l) k (show k < (bs l).size from h)]
  rfl
theorem bs_nil (l : List UInt8) : ((bs l).toList == (ByteArray.mk #[]).toList) = l.isEmpty := by
  rw [Lib.toList_data, Lib.toList_data]
  cases l <;> rfl
noncomputable def dbB : Code := loopIn (flat (bodyOf 80))[6]?
noncomputable def dbRun (l : List Code) (F : Fr) (see : Exit → Fr → Heap → Res) : Res := runL ((ctx noΦ).at_ 80) (callK (ctx noΦ) 20) 20 0 76 80 (keeps 80) l F [] see
theorem fn80 : sigOf 80 = some (76, [.tmp 4, .tmp 5]) := by kernel_rfl
theorem db_flat : flat (bodyOf 80) = (flat (bodyOf 80)).take 6 ++ ([.block 0 (.loop dbB)] ++ (flat (bodyOf 80)).drop 7) := by kernel_rfl
def dbF (s : ByteArray) (base : Int) (b : Bool) (n k : Int) : Fr := [(0, .string s), (1, .int .i64 base), (6, .bool b), (7, .int .i64 n), (8, .int .i64 k)]
theorem db_gh (s : ByteArray) (base : Int) (b : Bool) (n k : Int) : ∀ x ∈ dbF s base b n k, Gh x.2 := fun x hx => Gh.plain (by
  simp only [dbF, List.mem_cons, List.not_mem_nil, or_false] at hx
  rcases hx with rfl | rfl | rfl | rfl | rfl <;> rfl)
def dbOut (s : ByteArray) (base : Int) (b : Bool) (n k : Int) (e : Exit) : Res := some (e, (dbF s base b n k).map (fun e => some e.2), [])
def dbT (s : ByteArray) (base : Int) (b : Bool) (n : Int) (K : Nat) (bad : Res) (good : Int → Res) (d : Int) : Res :=
  bif decide (d < 0) then bad else bif decide (d ≥ base) then bad else bif decide (n < IntKind.i64.wrap ((IntKind.i64.wrap (-9223372036854775808 + d)).tdiv base)) then bad else good (dgS base n d)
def dbR (s : ByteArray) (base : Int) (b : Bool) (n : Int) (K : Nat) (bad : Res) (good : Int → Res) : Res :=
  bif Nat.blt K s.size then (bif Nat.blt K s.size then (bif decide (byteAt s K ≥ 97) then (bif Nat.blt K s.size then dbT s base b n K bad good (IntKind.i64.wrap (IntKind.i64.wrap (IntKind.u8.wrap (byteAt s K - 97)) + 10)) else none)
    else dbT s base b n K bad good (IntKind.i64.wrap (IntKind.u8.wrap (byteAt s K - 48)))) else none) else none
theorem dbT_eq (s : ByteArray) (base : Int) (b : Bool) (n : Int) (K : Nat) (bad : Res) (good : Int → Res) (d : Int) : dbT s base b n K bad good d = bif dgX base n d then bad else good (dgS base n d) := by
  unfold dbT dgX
  cases decide (d < 0) <;> cases decide (d ≥ base) <;> cases decide (n < IntKind.i64.wrap ((IntKind.i64.wrap (-9223372036854775808 + d)).tdiv base)) <;> rfl
theorem dbR_eq {s : ByteArray} {base : Int} {b : Bool} {n : Int} {K : Nat} {bad : Res} {good : Int → Res} (h : K < s.size) : dbR s base b n K bad good = bif dgX base n (dgV (byteAt s K)) then bad else good (dgS base n (dgV (byteAt s K))) := by
  unfold dbR
  have hb : Nat.blt K s.size = true := by rw [Nat.blt_eq]; exact h
  rw [hb, dbT_eq, dbT_eq]
  unfold dgV
  cases decide (byteAt s K ≥ 97) <;> rfl
theorem db_head10 (s : ByteArray) : dbRun ((flat (bodyOf 80)).take 6) (enterF 0 [.string s, .int .i64 10]) (seeV [0, 1, 6, 7, 8]) =
    bif !(s.toList == (ByteArray.mk #[]).toList) then (bif Nat.blt 0 s.size then (bif byteAt s 0 == 45 then (bif Nat.ble 1 s.size && Nat.ble s.size s.size then dbOut (s.extract 1 s.size) 10 true 0 0 .normal else none) else dbOut s 10 false 0 0 .normal) else none) else dbOut s 10 false 0 0 .normal := by kernel_rfl
theorem db_rnd10 (s : ByteArray) (b : Bool) (n : Int) (K : Nat) : dbRun (flat dbB) (dbF s 10 b n (Int.ofNat K)) (seeV [0, 1, 6, 7, 8]) =
    bif decide (Int.ofNat K < Int.ofNat s.size) then dbR s 10 b n K (dbOut s 10 b n (Int.ofNat K) .ret) (fun n' => dbOut s 10 b n' (w64 (Int.ofNat K + 1)) .normal) else dbOut s 10 b n (Int.ofNat K) (.exit 0) := by kernel_rfl
theorem db_bad10 (s : ByteArray) (b : Bool) (n : Int) (K : Nat) : dbRun (flat dbB) (dbF s 10 b n (Int.ofNat K)) (seeV [4, 5]) =
    bif decide (Int.ofNat K < Int.ofNat s.size) then dbR s 10 b n K (some (.ret, [some (.int .i64 0), some (.bool false)], [])) (fun n' => some (.normal, [none, none], [])) else some (.exit 0, [none, none], []) := by kernel_rfl
theorem db_end10 (s : ByteArray) (b : Bool) (n k : Int) : dbRun ((flat (bodyOf 80)).drop 7) (dbF s 10 b n k) (seeV [4, 5]) =
    bif s.toList == (ByteArray.mk #[]).toList then some (.ret, [some (.int .i64 0), some (.bool false)], []) else bif !b then (bif n == -9223372036854775808 then some (.ret, [some (.int .i64 0), some (.bool false)], []) else bif !b then some (.ret, [some (.int .i64 (IntKind.i64.wrap (0 - n))), some (.bool true)], []) else some (.ret, [some (.int .i64 n), some (.bool true)], []))
    else bif !b then some (.ret, [some (.int .i64 (IntKind.i64.wrap (0 - n))), some (.bool true)], []) else some (.ret, [some (.int .i64 n), some (.bool true)], []) := by kernel_rfl
theorem db_head16 (s : ByteArray) : dbRun ((flat (bodyOf 80)).take 6) (enterF 0 [.string s, .int .i64 16]) (seeV [0, 1, 6, 7, 8]) =
    bif !(s.toList == (ByteArray.mk #[]).toList) then (bif Nat.blt 0 s.size then (bif byteAt s 0 == 45 then (bif Nat.ble 1 s.size && Nat.ble s.size s.size then dbOut (s.extract 1 s.size) 16 true 0 0 .normal else none) else dbOut s 16 false 0 0 .normal) else none) else dbOut s 16 false 0 0 .normal := by kernel_rfl
theorem db_rnd16 (s : ByteArray) (b : Bool) (n : Int) (K : Nat) : dbRun (flat dbB) (dbF s 16 b n (Int.ofNat K)) (seeV [0, 1, 6, 7, 8]) =
    bif decide (Int.ofNat K < Int.ofNat s.size) then dbR s 16 b n K (dbOut s 16 b n (Int.ofNat K) .ret) (fun n' => dbOut s 16 b n' (w64 (Int.ofNat K + 1)) .normal) else dbOut s 16 b n (Int.ofNat K) (.exit 0) := by kernel_rfl
theorem db_bad16 (s : ByteArray) (b : Bool) (n : Int) (K : Nat) : dbRun (flat dbB) (dbF s 16 b n (Int.ofNat K)) (seeV [4, 5]) =
    bif decide (Int.ofNat K < Int.ofNat s.size) then dbR s 16 b n K (some (.ret, [some (.int .i64 0), some (.bool false)], [])) (fun n' => some (.normal, [none, none], [])) else some (.exit 0, [none, none], []) := by kernel_rfl
theorem db_end16 (s : ByteArray) (b : Bool) (n k : Int) : dbRun ((flat (bodyOf 80)).drop 7) (dbF s 16 b n k) (seeV [4, 5]) =
    bif s.toList == (ByteArray.mk #[]).toList then some (.ret, [some (.int .i64 0), some (.bool false)], []) else bif !b then (bif n == -9223372036854775808 then some (.ret, [some (.int .i64 0), some (.bool false)], []) else bif !b then some (.ret, [some (.int .i64 (IntKind.i64.wrap (0 - n))), some (.bool true)], []) else some (.ret, [some (.int .i64 n), some (.bool true)], []))
    else bif !b then some (.ret, [some (.int .i64 (IntKind.i64.wrap (0 - n))), some (.bool true)], []) else some (.ret, [some (.int .i64 n), some (.bool true)], []) := by kernel_rfl
theorem db_d1 : ((flat (bodyOf 80)).take 6).all (drawsOK ((ctx noΦ).dr 80)) = true := by kernel_rfl
theorem db_d2 : (flat dbB).all (drawsOK ((ctx noΦ).dr 80)) = true := by kernel_rfl
theorem db_d3 : ((flat (bodyOf 80)).drop 7).all (drawsOK ((ctx noΦ).dr 80)) = true := by kernel_rfl
theorem dig_tail10 {r : List UInt8} (hl : r.length ≤ 100000) (b : Bool) : ∃ n ok, GoOK Tryz.prog 0 0 76 ([.block 0 (.loop dbB)] ++ (flat (bodyOf 80)).drop 7) (dbF (bs r) 10 b 0 0) [] .ret [(4, .int .i64 n), (5, .bool ok)] [] ∧
    (n, ok) = (match dgL 10 r 0 with
      | none => (0, false)
      | some n => bif r.isEmpty then (0, false) else bif !b && n == -9223372036854775808 then (0, false) else (bif b then n else IntKind.i64.wrap (0 - n), true)) := by
  obtain ⟨m, h1, h2, h3⟩ := Isa.first (fun k => dgX 10 (dgN 10 r 0 k) (dgV ((r.getD k 0).toNat : Int))) r.length
  have hL := dgL_first 10 r 0 m h1 h2 h3
  have sz : (bs r).size = r.length := rfl
  have rnd : ∀ k, k < m → GcOK Tryz.prog 0 0 76 dbB (dbF (bs r) 10 b (dgN 10 r 0 k) (Int.ofNat k)) [] .normal (dbF (bs r) 10 b (dgN 10 r 0 (k + 1)) (Int.ofNat (k + 1))) [] := fun k hk => by
    have h := db_rnd10 (bs r) b (dgN 10 r 0 k) k
    rw [show decide (Int.ofNat k < Int.ofNat (bs r).size) = true from decide_eq_true (by rw [sz]; simp; omega), cond_true, dbR_eq (by rw [sz]; omega), byteAt_bs (by omega), h2 k hk, cond_false, show w64 (Int.ofNat k + 1) = Int.ofNat (k + 1) from w64_of (by simp; omega) (by simp; omega)] at h
    have e : dgN 10 r 0 (k + 1) = dgS 10 (dgN 10 r 0 k) (dgV ((r.getD k 0).toNat : Int)) := by
      unfold dgN
      rw [List.take_add_one, List.foldl_append, List.getD_eq_getElem?_getD, List.getElem?_eq_getElem (show k < r.length by omega)]; rfl
    rw [e]
    exact GoOK.code (GoOK.of_seeV noOK (m := 20) (j := 20) (f := 80) (p := keeps 80) (ts := [0, 1, 6, 7, 8]) rfl db_d2 h (db_gh _ _ _ _ _))
  have e0 : dgN 10 r 0 0 = 0 := rfl
  by_cases hm : m < r.length
  · rw [if_pos hm] at hL
    rw [hL]
    refine ⟨0, false, ?_, rfl⟩
    have hend : GcOK Tryz.prog 0 0 76 dbB (dbF (bs r) 10 b (dgN 10 r 0 m) (Int.ofNat m)) [] .ret [(4, .int .i64 0), (5, .bool false)] [] := by
      have h := db_bad10 (bs r) b (dgN 10 r 0 m) m
      rw [show decide (Int.ofNat m < Int.ofNat (bs r).size) = true from decide_eq_true (by rw [sz]; simp; omega), cond_true, dbR_eq (by rw [sz]; omega), byteAt_bs (by omega), h3 hm, cond_true] at h
      exact GoOK.code (GoOK.of_seeV (F2 := [(4, .int .i64 0), (5, .bool false)]) noOK (m := 20) (j := 20) (f := 80) (p := keeps 80) (ts := [4, 5]) rfl db_d2 h (fun x hx => by
        simp only [List.mem_cons, List.not_mem_nil, or_false] at hx
        rcases hx with rfl | rfl <;> exact Gh.plain rfl))
    have lp := (GcOK.block (id := 0) (GcOK.loop (P := Tryz.prog) (lo := 0) (base := 0) (n := 76) (c := dbB) (fun k => dbF (bs r) 10 b (dgN 10 r 0 k) (Int.ofNat k)) (fun _ => []) m (e := .ret) (by intro h; cases h) rnd hend)).row
    exact GoOK.left lp (by intro h; cases h) _
  · have hmr : m = r.length := by omega
    subst hmr
    rw [if_neg hm] at hL
    rw [hL]
    have hend : GcOK Tryz.prog 0 0 76 dbB (dbF (bs r) 10 b (dgN 10 r 0 r.length) (Int.ofNat r.length)) [] (.exit 0) (dbF (bs r) 10 b (dgN 10 r 0 r.length) (Int.ofNat r.length)) [] := by
      have h := db_rnd10 (bs r) b (dgN 10 r 0 r.length) r.length
      rw [show decide (Int.ofNat r.length < Int.ofNat (bs r).size) = false from decide_eq_false (by rw [sz]; simp), cond_false] at h
      exact GoOK.code (GoOK.of_seeV noOK (m := 20) (j := 20) (f := 80) (p := keeps 80) (ts := [0, 1, 6, 7, 8]) rfl db_d2 h (db_gh _ _ _ _ _))
    have lp := (GcOK.block (id := 0) (GcOK.loop (P := Tryz.prog) (lo := 0) (base := 0) (n := 76) (c := dbB) (fun k => dbF (bs r) 10 b (dgN 10 r 0 k) (Int.ofNat k)) (fun _ => []) r.length (e := .exit 0) (by intro h; cases h) rnd hend)).row
    have he := db_end10 (bs r) b (dgN 10 r 0 r.length) (Int.ofNat r.length)
    rw [bs_nil] at he
    generalize hN : dgN 10 r 0 r.length = N at *
    have fin : ∀ n ok, dbRun ((flat (bodyOf 80)).drop 7) (dbF (bs r) 10 b N (Int.ofNat r.length)) (seeV [4, 5]) = some (.ret, [some (.int .i64 n), some (.bool ok)], []) → GoOK Tryz.prog 0 0 76 ([.block 0 (.loop dbB)] ++ (flat (bodyOf 80)).drop 7) (dbF (bs r) 10 b 0 0) [] .ret [(4, .int .i64 n), (5, .bool ok)] [] := fun n ok h =>
      GoOK.app lp (GoOK.of_seeV (F2 := [(4, .int .i64 n), (5, .bool ok)]) noOK (m := 20) (j := 20) (f := 80) (p := keeps 80) (ts := [4, 5]) rfl db_d3 h (fun x hx => by
        simp only [List.mem_cons, List.not_mem_nil, or_false] at hx
        rcases hx with rfl | rfl <;> exact Gh.plain rfl))
    cases he1 : r.isEmpty with
    | true => rw [he1] at he; exact ⟨_, _, fin _ _ he, rfl⟩
    | false =>
      rw [he1] at he
      cases b with
      | true => exact ⟨_, _, fin _ _ he, rfl⟩
      | false =>
        cases hz : (N == -9223372036854775808) with
        | true => simp only [Bool.not_false, cond_true, cond_false, hz] at he; exact ⟨_, _, fin _ _ he, by simp [hz]⟩
        | false => simp only [Bool.not_false, cond_true, cond_false, hz] at he; exact ⟨_, _, fin _ _ he, by simp [hz]⟩
theorem digOK10 {l : List UInt8} (hl : l.length ≤ 100000) : PureOK Tryz.prog 80 [.string (bs l), .int .i64 10] (.tuple #[.int .i64 (digF 10 l).1, .bool (digF 10 l).2]) := by
  have fin : ∀ n ok, GoOK Tryz.prog 0 0 76 (flat (bodyOf 80)) (enterF 0 [.string (bs l), .int .i64 10]) [] .ret [(4, .int .i64 n), (5, .bool ok)] [] → PureOK Tryz.prog 80 [.string (bs l), .int .i64 10] (.tuple #[.int .i64 n, .bool ok]) := fun n ok h => by
    obtain ⟨fn, f1, f2, f3, f4⟩ := fnOf fn80
    exact PureOK.of_call (CallOK.of_go noOK (f := 80) (fn := fn) (c := bodyOf 80) (args := [.string (bs l), .int .i64 10]) (l := [.int .i64 n, .bool ok]) (H := []) f1 f2 (by rw [f3]; simp) (by rw [f3]; exact GoOK.code h) (.inr rfl) (by rw [f4]; rfl)) (Gh.plain rfl)
  have hh := db_head10 (bs l)
  rw [bs_nil] at hh
  cases l with
  | nil =>
    obtain ⟨n, ok, h1, h2⟩ := dig_tail10 (r := []) (by simp) false
    have g0 := GoOK.of_seeV (F2 := dbF (bs []) 10 false 0 0) noOK (m := 20) (j := 20) (f := 80) (p := keeps 80) (ts := [0, 1, 6, 7, 8]) rfl db_d1 hh (db_gh _ _ _ _ _)
    have h2' : digF 10 [] = (n, ok) := h2.symm
    rw [h2']
    refine fin n ok ?_
    rw [db_flat]
    exact g0.app h1
  | cons c r =>
    have sz : (bs (c :: r)).size = r.length + 1 := by show (c :: r).length = _; simp
    rw [show (c :: r).isEmpty = false from rfl, Bool.not_false, cond_true, show Nat.blt 0 (bs (c :: r)).size = true by rw [Nat.blt_eq, sz]; omega, cond_true, byteAt_bs (by simp)] at hh
    have e1 : ((((c :: r).getD 0 0).toNat : Int) == 45) = (c == 45) := by
      show ((c.toNat : Int) == 45) = _
      rw [Bool.eq_iff_iff, beq_iff_eq, beq_iff_eq]
      constructor
      · intro h; exact UInt8.toNat_inj.1 (by show c.toNat = 45; omega)
      · intro h; rw [h]; rfl
    rw [e1] at hh
    cases hc : (c == 45) with
    | true =>
      rw [hc, cond_true, show (Nat.ble 1 (bs (c :: r)).size && Nat.ble (bs (c :: r)).size (bs (c :: r)).size) = true by
        rw [sz, Bool.and_eq_true]; exact ⟨Nat.ble_eq_true_of_le (by omega), Nat.ble_eq_true_of_le (by omega)⟩, cond_true] at hh
      have ex : (bs (c :: r)).extract 1 (bs (c :: r)).size = bs r := ByteArray.ext (by rw [sz]; simp [bs])
      rw [ex] at hh
      obtain ⟨n, ok, h1, h2⟩ := dig_tail10 (r := r) (by simp at hl; omega) true
      have g0 := GoOK.of_seeV (F2 := dbF (bs r) 10 true 0 0) noOK (m := 20) (j := 20) (f := 80) (p := keeps 80) (ts := [0, 1, 6, 7, 8]) rfl db_d1 hh (db_gh _ _ _ _ _)
      have hc' : ((c :: r).head? == some 45) = true := by simpa using hc
      have h2' : digF 10 (c :: r) = (n, ok) := by
        unfold digF; rw [hc', h2]; rfl
      rw [h2']
      refine fin n ok ?_
      rw [db_flat]
      exact g0.app h1
    | false =>
      rw [hc, cond_false] at hh
      obtain ⟨n, ok, h1, h2⟩ := dig_tail10 (r := c :: r) hl false
      have g0 := GoOK.of_seeV (F2 := dbF (bs (c :: r)) 10 false 0 0) noOK (m := 20) (j := 20) (f := 80) (p := keeps 80) (ts := [0, 1, 6, 7, 8]) rfl db_d1 hh (db_gh _ _ _ _ _)
      have hc' : ((c :: r).head? == some 45) = false := by simpa using hc
      have h2' : digF 10 (c :: r) = (n, ok) := by
        unfold digF; rw [hc', h2]; rfl
      rw [h2']
      refine fin n ok ?_
      rw [db_flat]
      exact g0.app h1
theorem dig_tail16 {r : List UInt8} (hl : r.length ≤ 100000) (b : Bool) : ∃ n ok, GoOK Tryz.prog 0 0 76 ([.block 0 (.loop dbB)] ++ (flat (bodyOf 80)).drop 7) (dbF (bs r) 16 b 0 0) [] .ret [(4, .int .i64 n), (5, .bool ok)] [] ∧
    (n, ok) = (match dgL 16 r 0 with
      | none => (0, false)
      | some n => bif r.isEmpty then (0, false) else bif !b && n == -9223372036854775808 then (0, false) else (bif b then n else IntKind.i64.wrap (0 - n), true)) := by
  obtain ⟨m, h1, h2, h3⟩ := Isa.first (fun k => dgX 16 (dgN 16 r 0 k) (dgV ((r.getD k 0).toNat : Int))) r.length
  have hL := dgL_first 16 r 0 m h1 h2 h3
  have sz : (bs r).size = r.length := rfl
  have rnd : ∀ k, k < m → GcOK Tryz.prog 0 0 76 dbB (dbF (bs r) 16 b (dgN 16 r 0 k) (Int.ofNat k)) [] .normal (dbF (bs r) 16 b (dgN 16 r 0 (k + 1)) (Int.ofNat (k + 1))) [] := fun k hk => by
    have h := db_rnd16 (bs r) b (dgN 16 r 0 k) k
    rw [show decide (Int.ofNat k < Int.ofNat (bs r).size) = true from decide_eq_true (by rw [sz]; simp; omega), cond_true, dbR_eq (by rw [sz]; omega), byteAt_bs (by omega), h2 k hk, cond_false, show w64 (Int.ofNat k + 1) = Int.ofNat (k + 1) from w64_of (by simp; omega) (by simp; omega)] at h
    have e : dgN 16 r 0 (k + 1) = dgS 16 (dgN 16 r 0 k) (dgV ((r.getD k 0).toNat : Int)) := by
      unfold dgN
      rw [List.take_add_one, List.foldl_append, List.getD_eq_getElem?_getD, List.getElem?_eq_getElem (show k < r.length by omega)]; rfl
    rw [e]
    exact GoOK.code (GoOK.of_seeV noOK (m := 20) (j := 20) (f := 80) (p := keeps 80) (ts := [0, 1, 6, 7, 8]) rfl db_d2 h (db_gh _ _ _ _ _))
  have e0 : dgN 16 r 0 0 = 0 := rfl
  by_cases hm : m < r.length
  · rw [if_pos hm] at hL
    rw [hL]
    refine ⟨0, false, ?_, rfl⟩
    have hend : GcOK Tryz.prog 0 0 76 dbB (dbF (bs r) 16 b (dgN 16 r 0 m) (Int.ofNat m)) [] .ret [(4, .int .i64 0), (5, .bool false)] [] := by
      have h := db_bad16 (bs r) b (dgN 16 r 0 m) m
      rw [show decide (Int.ofNat m < Int.ofNat (bs r).size) = true from decide_eq_true (by rw [sz]; simp; omega), cond_true, dbR_eq (by rw [sz]; omega), byteAt_bs (by omega), h3 hm, cond_true] at h
      exact GoOK.code (GoOK.of_seeV (F2 := [(4, .int .i64 0), (5, .bool false)]) noOK (m := 20) (j := 20) (f := 80) (p := keeps 80) (ts := [4, 5]) rfl db_d2 h (fun x hx => by
        simp only [List.mem_cons, List.not_mem_nil, or_false] at hx
        rcases hx with rfl | rfl <;> exact Gh.plain rfl))
    have lp := (GcOK.block (id := 0) (GcOK.loop (P := Tryz.prog) (lo := 0) (base := 0) (n := 76) (c := dbB) (fun k => dbF (bs r) 16 b (dgN 16 r 0 k) (Int.ofNat k)) (fun _ => []) m (e := .ret) (by intro h; cases h) rnd hend)).row
    exact GoOK.left lp (by intro h; cases h) _
  · have hmr : m = r.length := by omega
    subst hmr
    rw [if_neg hm] at hL
    rw [hL]
    have hend : GcOK Tryz.prog 0 0 76 dbB (dbF (bs r) 16 b (dgN 16 r 0 r.length) (Int.ofNat r.length)) [] (.exit 0) (dbF (bs r) 16 b (dgN 16 r 0 r.length) (Int.ofNat r.length)) [] := by
      have h := db_rnd16 (bs r) b (dgN 16 r 0 r.length) r.length
      rw [show decide (Int.ofNat r.length < Int.ofNat (bs r).size) = false from decide_eq_false (by rw [sz]; simp), cond_false] at h
      exact GoOK.code (GoOK.of_seeV noOK (m := 20) (j := 20) (f := 80) (p := keeps 80) (ts := [0, 1, 6, 7, 8]) rfl db_d2 h (db_gh _ _ _ _ _))
    have lp := (GcOK.block (id := 0) (GcOK.loop (P := Tryz.prog) (lo := 0) (base := 0) (n := 76) (c := dbB) (fun k => dbF (bs r) 16 b (dgN 16 r 0 k) (Int.ofNat k)) (fun _ => []) r.length (e := .exit 0) (by intro h; cases h) rnd hend)).row
    have he := db_end16 (bs r) b (dgN 16 r 0 r.length) (Int.ofNat r.length)
    rw [bs_nil] at he
    generalize hN : dgN 16 r 0 r.length = N at *
    have fin : ∀ n ok, dbRun ((flat (bodyOf 80)).drop 7) (dbF (bs r) 16 b N (Int.ofNat r.length)) (seeV [4, 5]) = some (.ret, [some (.int .i64 n), some (.bool ok)], []) → GoOK Tryz.prog 0 0 76 ([.block 0 (.loop dbB)] ++ (flat (bodyOf 80)).drop 7) (dbF (bs r) 16 b 0 0) [] .ret [(4, .int .i64 n), (5, .bool ok)] [] := fun n ok h =>
      GoOK.app lp (GoOK.of_seeV (F2 := [(4, .int .i64 n), (5, .bool ok)]) noOK (m := 20) (j := 20) (f := 80) (p := keeps 80) (ts := [4, 5]) rfl db_d3 h (fun x hx => by
        simp only [List.mem_cons, List.not_mem_nil, or_false] at hx
        rcases hx with rfl | rfl <;> exact Gh.plain rfl))
    cases he1 : r.isEmpty with
    | true => rw [he1] at he; exact ⟨_, _, fin _ _ he, rfl⟩
    | false =>
      rw [he1] at he
      cases b with
      | true => exact ⟨_, _, fin _ _ he, rfl⟩
      | false =>
        cases hz : (N == -9223372036854775808) with
        | true => simp only [Bool.not_false, cond_true, cond_false, hz] at he; exact ⟨_, _, fin _ _ he, by simp [hz]⟩
        | false => simp only [Bool.not_false, cond_true, cond_false, hz] at he; exact ⟨_, _, fin _ _ he, by simp [hz]⟩
theorem digOK16 {l : List UInt8} (hl : l.length ≤ 100000) : PureOK Tryz.prog 80 [.string (bs l), .int .i64 16] (.tuple #[.int .i64 (digF 16 l).1, .bool (digF 16 l).2]) := by
  have fin : ∀ n ok, GoOK Tryz.prog 0 0 76 (flat (bodyOf 80)) (enterF 0 [.string (bs l), .int .i64 16]) [] .ret [(4, .int .i64 n), (5, .bool ok)] [] → PureOK Tryz.prog 80 [.string (bs l), .int .i64 16] (.tuple #[.int .i64 n, .bool ok]) := fun n ok h => by
    obtain ⟨fn, f1, f2, f3, f4⟩ := fnOf fn80
    exact PureOK.of_call (CallOK.of_go noOK (f := 80) (fn := fn) (c := bodyOf 80) (args := [.string (bs l), .int .i64 16]) (l := [.int .i64 n, .bool ok]) (H := []) f1 f2 (by rw [f3]; simp) (by rw [f3]; exact GoOK.code h) (.inr rfl) (by rw [f4]; rfl)) (Gh.plain rfl)
  have hh := db_head16 (bs l)
  rw [bs_nil] at hh
  cases l with
  | nil =>
    obtain ⟨n, ok, h1, h2⟩ := dig_tail16 (r := []) (by simp) false
    have g0 := GoOK.of_seeV (F2 := dbF (bs []) 16 false 0 0) noOK (m := 20) (j := 20) (f := 80) (p := keeps 80) (ts := [0, 1, 6, 7, 8]) rfl db_d1 hh (db_gh _ _ _ _ _)
    have h2' : digF 16 [] = (n, ok) := h2.symm
    rw [h2']
    refine fin n ok ?_
    rw [db_flat]
    exact g0.app h1
  | cons c r =>
    have sz : (bs (c :: r)).size = r.length + 1 := by show (c :: r).length = _; simp
    rw [show (c :: r).isEmpty = false from rfl, Bool.not_false, cond_true, show Nat.blt 0 (bs (c :: r)).size = true by rw [Nat.blt_eq, sz]; omega, cond_true, byteAt_bs (by simp)] at hh
    have e1 : ((((c :: r).getD 0 0).toNat : Int) == 45) = (c == 45) := by
      show ((c.toNat : Int) == 45) = _
      rw [Bool.eq_iff_iff, beq_iff_eq, beq_iff_eq]
      constructor
      · intro h; exact UInt8.toNat_inj.1 (by show c.toNat = 45; omega)
      · intro h; rw [h]; rfl
    rw [e1] at hh
    cases hc : (c == 45) with
    | true =>
      rw [hc, cond_true, show (Nat.ble 1 (bs (c :: r)).size && Nat.ble (bs (c :: r)).size (bs (c :: r)).size) = true by
        rw [sz, Bool.and_eq_true]; exact ⟨Nat.ble_eq_true_of_le (by omega), Nat.ble_eq_true_of_le (by omega)⟩, cond_true] at hh
      have ex : (bs (c :: r)).extract 1 (bs (c :: r)).size = bs r := ByteArray.ext (by rw [sz]; simp [bs])
      rw [ex] at hh
      obtain ⟨n, ok, h1, h2⟩ := dig_tail16 (r := r) (by simp at hl; omega) true
      have g0 := GoOK.of_seeV (F2 := dbF (bs r) 16 true 0 0) noOK (m := 20) (j := 20) (f := 80) (p := keeps 80) (ts := [0, 1, 6, 7, 8]) rfl db_d1 hh (db_gh _ _ _ _ _)
      have hc' : ((c :: r).head? == some 45) = true := by simpa using hc
      have h2' : digF 16 (c :: r) = (n, ok) := by
        unfold digF; rw [hc', h2]; rfl
      rw [h2']
      refine fin n ok ?_
      rw [db_flat]
      exact g0.app h1
    | false =>
      rw [hc, cond_false] at hh
      obtain ⟨n, ok, h1, h2⟩ := dig_tail16 (r := c :: r) hl false
      have g0 := GoOK.of_seeV (F2 := dbF (bs (c :: r)) 16 false 0 0) noOK (m := 20) (j := 20) (f := 80) (p := keeps 80) (ts := [0, 1, 6, 7, 8]) rfl db_d1 hh (db_gh _ _ _ _ _)
      have hc' : ((c :: r).head? == some 45) = false := by simpa using hc
      have h2' : digF 16 (c :: r) = (n, ok) := by
        unfold digF; rw [hc', h2]; rfl
      rw [h2']
      refine fin n ok ?_
      rw [db_flat]
      exact g0.app h1
end Go.Proofs.YtgkicojmgokinaaGreatDoor.Ab
