/- Eight hexadecimal digits, the text of a word that is none; rows of words compared; asm.Lines: the texts of words. -/
import Derived.Test.YtgkicojmgokinaaGreatDoorAsmSame
import Derived.Test.YtgkicojmgokinaaGreatDoorAsmProg
namespace Go.Proofs.YtgkicojmgokinaaGreatDoor.Ab
open Go Go.RowKit
set_option linter.unusedVariables false
set_option linter.unusedSimpArgs false
set_option maxRecDepth 100000
theorem bs_cat (a b : List UInt8) : bs (a ++ b) = bs a ++ bs b := ByteArray.ext (by simp [bs])
theorem hex8_run (Bt : Int → Int → Int → Int) (w : Int) : callK (ctx (bitsΦ Bt)) 20 0 47 [.int .u32 w, .int .i64 8] [] (fun v _ => some v) =
    bif hg (Bt w 28 4) then (bif hg (Bt w 24 4) then (bif hg (Bt w 20 4) then (bif hg (Bt w 16 4) then (bif hg (Bt w 12 4) then (bif hg (Bt w 8 4) then (bif hg (Bt w 4 4) then (bif hg (Bt w 0 4) then
      (bif [hc (Bt w 28 4), hc (Bt w 24 4), hc (Bt w 20 4), hc (Bt w 16 4), hc (Bt w 12 4), hc (Bt w 8 4), hc (Bt w 4 4), hc (Bt w 0 4)].all isByte then some (.string ⟨⟨[hc (Bt w 28 4), hc (Bt w 24 4), hc (Bt w 20 4), hc (Bt w 16 4), hc (Bt w 12 4), hc (Bt w 8 4), hc (Bt w 4 4), hc (Bt w 0 4)].map byteOf⟩⟩) else none)
    else none) else none) else none) else none) else none) else none) else none) else none := by kernel_rfl
def hx8 (w : Int) : List UInt8 := [28, 24, 20, 16, 12, 8, 4, 0].map fun s => hd (bitV w s 4)
theorem hex8OK (w : Int) : PureOK Tryz.prog 47 [.int .u32 w, .int .i64 8] (.string (bs (hx8 w))) := by
  have r := hex8_run bitV w
  rw [hg_of (bit4 w 28), hg_of (bit4 w 24), hg_of (bit4 w 20), hg_of (bit4 w 16), hg_of (bit4 w 12), hg_of (bit4 w 8), hg_of (bit4 w 4), hg_of (bit4 w 0),
    show [hc (bitV w 28 4), hc (bitV w 24 4), hc (bitV w 20 4), hc (bitV w 16 4), hc (bitV w 12 4), hc (bitV w 8 4), hc (bitV w 4 4), hc (bitV w 0 4)].all isByte = true by
      simp [hc_byte (bit4 w 28), hc_byte (bit4 w 24), hc_byte (bit4 w 20), hc_byte (bit4 w 16), hc_byte (bit4 w 12), hc_byte (bit4 w 8), hc_byte (bit4 w 4), hc_byte (bit4 w 0)]] at r
  exact PureOK.of_run bitsΦ_ok r (Gh.plain rfl)
/-! ### The document's hex -/
def dg (n : Int) : ByteArray := hexs.extract n.toNat (IntKind.u32.wrap (n + 1)).toNat
def dgG (n : Int) : Bool := Nat.ble n.toNat (IntKind.u32.wrap (n + 1)).toNat && Nat.ble (IntKind.u32.wrap (n + 1)).toNat 16
def rhexT (w : Int) : List Int → ByteArray → Option Value
  | [], s => some (.string s)
  | sh :: r, s => bif dgG (bitV w sh 4) then (bif okLen s (dg (bitV w sh 4)) then rhexT w r (s ++ dg (bitV w sh 4)) else none) else none
theorem rhex8_run (w : Int) : callK (ctx noΦ) 20 0 36 [.int .u32 w, .int .i64 8] [] (fun v _ => some v) = rhexT w [28, 24, 20, 16, 12, 8, 4, 0] ⟨#[]⟩ := by kernel_rfl
theorem dg_all : ∀ n : Nat, n < 16 → dgG (n : Int) = true ∧ (dg (n : Int)).toList = [hd (n : Int)] := by decide +kernel
theorem dg_of {n : Int} (h : 0 ≤ n ∧ n < 16) : dgG n = true ∧ dg n = bs [hd n] := by
  obtain ⟨k, rfl⟩ := Int.eq_ofNat_of_zero_le h.1
  obtain ⟨h1, h2⟩ := dg_all k (by omega)
  refine ⟨h1, tl_eq (a := dg k) (b := bs [hd k]) ?_⟩
  rw [h2, show (bs [hd (k : Int)]).toList = [hd (k : Int)] from Lib.toList_data _]
  simp
theorem rhexT_eq (w : Int) : ∀ (L : List Int) (l : List UInt8), l.length + L.length ≤ 1000 → rhexT w L (bs l) = some (.string (bs (l ++ L.map fun s => hd (bitV w s 4))))
  | [], l, _ => by simp [rhexT]
  | sh :: L, l, h => by
    simp only [List.length_cons] at h
    obtain ⟨h1, h2⟩ := dg_of (bit4 w sh)
    unfold rhexT
    rw [h1, h2, show okLen (bs l) (bs [hd (bitV w sh 4)]) = true from okLen_of (by simp; omega), cond_true, cond_true, ← bs_cat, rhexT_eq w L (l ++ [hd (bitV w sh 4)]) (by simp; omega)]
    simp
theorem rhex8OK (w : Int) : PureOK Tryz.prog 36 [.int .u32 w, .int .i64 8] (.string (bs (hx8 w))) :=
  PureOK.of_run noOK ((rhex8_run w).trans (rhexT_eq w [28, 24, 20, 16, 12, 8, 4, 0] [] (by simp))) (Gh.plain rfl)
/-! ### Raw -/
def wdL : List UInt8 := [46, 119, 111, 114, 100, 32, 48, 120]
noncomputable def rawΦ (Hx : Int → ByteArray) : Oracle := fun lo f args H => match f with
  | 36 => match args with
    | [.int .u32 w, .int .i64 8] => some [(true, .string (Hx w), H)]
    | _ => none
  | _ => none
theorem rawΦ_ok : CtxOK Tryz.prog (ctx (rawΦ (fun w => bs (hx8 w)))) := ctxOK fun lo f args H l v H' h hm => by
  unfold rawΦ at h
  split at h
  · split at h
    · cases h
      simp only [List.mem_cons, List.not_mem_nil, or_false, Prod.mk.injEq] at hm
      obtain ⟨hc, rfl, rfl⟩ := hm
      exact ⟨(rhex8OK _).call (gh_plains rfl) lo H', rfl⟩
    · cases h
  · cases h
theorem raw_run (Hx : Int → ByteArray) (w : Int) : callK (ctx (rawΦ Hx)) 20 0 21 [.int .u32 w] [] (fun v _ => some v) = bif okLen (bs wdL) (Hx w) then some (.string (bs wdL ++ Hx w)) else none := by kernel_rfl
def rawS (w : Int) : ByteArray := bs (wdL ++ hx8 w)
theorem raw_len (w : Int) : okLen (bs wdL) (bs (hx8 w)) = true := okLen_of (by simp [wdL, hx8])
theorem rawOK (w : Int) : PureOK Tryz.prog 21 [.int .u32 w] (.string (rawS w)) := by
  have r := raw_run (fun w => bs (hx8 w)) w
  rw [raw_len, cond_true, ← bs_cat] at r
  exact PureOK.of_run rawΦ_ok r (Gh.plain rfl)
/-! ### SameWords, of a row and itself -/
def ldW (xs : List Int) (k : Nat) : Value := ((xs.map (Value.int .u32)).drop (k * 1)).getD 0 undef
def ldWG (xs : List Int) (k : Nat) (z : Res) : Res := bif decide (Int.ofNat k < Int.ofNat xs.length) && true then bif Nat.blt 0 ((xs.map (Value.int .u32)).drop (k * 1)).length && (shape (.int .u32) (ldW xs k)).1 then z else none else none
theorem ldW_eq {xs : List Int} {k : Nat} (h : k < xs.length) : ldW xs k = .int .u32 (xs.getD k 0) := by
  unfold ldW
  rw [Nat.mul_one, List.getD_eq_getElem?_getD, List.getElem?_drop, Nat.add_zero, List.getElem?_map, List.getElem?_eq_getElem h, List.getD_eq_getElem?_getD, List.getElem?_eq_getElem h]; rfl
theorem ldWG_eq {xs : List Int} {k : Nat} (h : k < xs.length) (z : Res) : ldWG xs k z = z := by
  unfold ldWG
  rw [ldW_eq h, show (decide (Int.ofNat k < Int.ofNat xs.length) && true) = true by rw [Bool.and_true]; exact decide_eq_true (by simp; omega),
    show (Nat.blt 0 ((xs.map (Value.int .u32)).drop (k * 1)).length && (shape (.int .u32) (.int .u32 (xs.getD k 0))).1) = true by
      rw [Bool.and_eq_true]; exact ⟨by rw [Nat.blt_eq]; simp; omega, rfl⟩]
  rfl
noncomputable def swB : Code := loopIn (flat (bodyOf 22))[4]?
noncomputable def swRun (l : List Code) (F : Fr) (see : Exit → Fr → Heap → Res) : Res := runL ((ctx noΦ).at_ 22) (callK (ctx noΦ) 20) 20 0 29 22 (keeps 22) l F [] see
theorem fn22 : sigOf 22 = some (29, [.tmp 4]) := by kernel_rfl
theorem sw_flat : flat (bodyOf 22) = (flat (bodyOf 22)).take 4 ++ ([.block 0 (.loop swB)] ++ (flat (bodyOf 22)).drop 5) := by kernel_rfl
def swF (ws : List Int) (k : Int) : Fr := [(0, LW ws), (1, LW ws), (5, .int .i64 k)]
theorem sw_head (ws : List Int) : swRun ((flat (bodyOf 22)).take 4) (enterF 0 [LW ws, LW ws]) (seeV [0, 1, 5]) = bif Int.ofNat ws.length != Int.ofNat ws.length then some (.ret, [some (LW ws), some (LW ws), none], []) else some (.normal, (swF ws 0).map (fun e => some e.2), []) := by kernel_rfl
theorem sw_rnd (ws : List Int) (K : Nat) : swRun (flat swB) (swF ws (Int.ofNat K)) (seeV [0, 1, 5]) =
    bif decide (Int.ofNat K < Int.ofNat ws.length) then ldWG ws K (ldWG ws K (bif toInt (ldW ws K) == toInt (ldW ws K) then some (.normal, (swF ws (w64 (Int.ofNat K + 1))).map (fun e => some e.2), []) else some (.ret, (swF ws (Int.ofNat K)).map (fun e => some e.2), [])))
    else some (.exit 0, (swF ws (Int.ofNat K)).map (fun e => some e.2), []) := by kernel_rfl
theorem sw_end (ws : List Int) (k : Int) : swRun ((flat (bodyOf 22)).drop 5) (swF ws k) (seeV [4]) = some (.ret, [some (.bool true)], []) := by kernel_rfl
theorem sw_d1 : ((flat (bodyOf 22)).take 4).all (drawsOK ((ctx noΦ).dr 22)) = true := by kernel_rfl
theorem sw_d2 : (flat swB).all (drawsOK ((ctx noΦ).dr 22)) = true := by kernel_rfl
theorem sw_d3 : ((flat (bodyOf 22)).drop 5).all (drawsOK ((ctx noΦ).dr 22)) = true := by kernel_rfl
theorem sw_gh (ws : List Int) (k : Int) : ∀ x ∈ swF ws k, Gh x.2 := fun x hx => by
  simp only [swF, List.mem_cons, List.not_mem_nil, or_false] at hx
  rcases hx with rfl | rfl | rfl
  · exact LW_gh _
  · exact LW_gh _
  · exact gh_int _ _
theorem sameWordsOK {ws : List Int} (hl : ws.length ≤ 1000000) : PureOK Tryz.prog 22 [LW ws, LW ws] (.bool true) := by
  have r1 := sw_head ws
  rw [bne_self_eq_false, cond_false] at r1
  have g1 := GoOK.of_seeV (F2 := swF ws 0) noOK (m := 20) (j := 20) (f := 22) (p := keeps 22) (ts := [0, 1, 5]) rfl sw_d1 r1 (sw_gh ws 0)
  have rnd : ∀ k, k < ws.length → GcOK Tryz.prog 0 0 29 swB (swF ws (Int.ofNat k)) [] .normal (swF ws (Int.ofNat (k + 1))) [] := fun k hk => by
    have h := sw_rnd ws k
    rw [show decide (Int.ofNat k < Int.ofNat ws.length) = true from decide_eq_true (by simp; omega), cond_true, ldWG_eq hk, ldWG_eq hk, beq_self_eq_true, cond_true, show w64 (Int.ofNat k + 1) = Int.ofNat (k + 1) from w64_of (by simp; omega) (by simp; omega)] at h
    exact GoOK.code (GoOK.of_seeV (F2 := swF ws (Int.ofNat (k + 1))) noOK (m := 20) (j := 20) (f := 22) (p := keeps 22) (ts := [0, 1, 5]) rfl sw_d2 h (sw_gh ws _))
  have hend : GcOK Tryz.prog 0 0 29 swB (swF ws (Int.ofNat ws.length)) [] (.exit 0) (swF ws (Int.ofNat ws.length)) [] := by
    have h := sw_rnd ws ws.length
    rw [show decide (Int.ofNat ws.length < Int.ofNat ws.length) = false from decide_eq_false (by simp), cond_false] at h
    exact GoOK.code (GoOK.of_seeV (F2 := swF ws (Int.ofNat ws.length)) noOK (m := 20) (j := 20) (f := 22) (p := keeps 22) (ts := [0, 1, 5]) rfl sw_d2 h (sw_gh ws _))
  have lp := (GcOK.block (id := 0) (GcOK.loop (P := Tryz.prog) (lo := 0) (base := 0) (n := 29) (c := swB) (fun k => swF ws (Int.ofNat k)) (fun _ => []) ws.length (e := .exit 0) (by intro h; cases h) rnd hend)).row
  have g3 := GoOK.of_seeV (F2 := [(4, .bool true)]) noOK (m := 20) (j := 20) (f := 22) (p := keeps 22) (ts := [4]) rfl sw_d3 (sw_end ws (Int.ofNat ws.length)) (fun x hx => by simp at hx; subst hx; exact Gh.plain rfl)
  have all := g1.app (lp.app g3)
  rw [← sw_flat] at all
  obtain ⟨fn, f1, f2, f3, f4⟩ := fnOf fn22
  have hc := CallOK.of_go noOK (f := 22) (fn := fn) (c := bodyOf 22) (args := [LW ws, LW ws]) (l := [.bool true]) (H := []) f1 f2 (by rw [f3]; simp) (by rw [f3]; exact GoOK.code all) (.inr rfl) (by rw [f4]; rfl)
  exact PureOK.of_call hc (Gh.plain rfl)
/-! ### Lines -/
noncomputable def ljΦ (D : Int → Inst) (B : Int → Bool) (E : Inst → Nat) (Pt : Inst → ByteArray) (Hx : Int → ByteArray) : Oracle := fun lo f args H => match f with
  | 46 => match args with
    | [.int .u32 w] => some [(true, .tuple #[instV (D w), .bool (B w)], H)]
    | _ => none
  | 9 => match args with
    | [.agg ⟨[.int .i64 op, .int .i64 rd, .int .i64 rs1, .int .i64 rs2, .int .i64 csr, .int .u32 imm, .bool aq, .bool rl]⟩] => some [(Nat.beq (E ⟨op, rd, rs1, rs2, csr, imm, aq, rl⟩) 0, .tuple #[.string (Pt ⟨op, rd, rs1, rs2, csr, imm, aq, rl⟩), .nilIface], H), (Nat.beq (E ⟨op, rd, rs1, rs2, csr, imm, aq, rl⟩) 1, .tuple #[sv [], errV 1], H)]
    | _ => none
  | 47 => match args with
    | [.int .u32 w, .int .i64 8] => some [(true, .string (Hx w), H)]
    | _ => none
  | _ => none
theorem ljΦ_ok : CtxOK Tryz.prog (ctx (ljΦ (fun w => (Isa.dec w).1) (fun w => (Isa.dec w).2) encE textS (fun w => bs (hx8 w)))) := ctxOK fun lo f args H l v H' h hm => by
  unfold ljΦ at h
  split at h
  · split at h
    · cases h
      simp only [List.mem_cons, List.not_mem_nil, or_false, Prod.mk.injEq] at hm
      obtain ⟨hc, rfl, rfl⟩ := hm
      exact ⟨(Isa.decodeOK _).call (gh_plains rfl) lo H', rfl⟩
    · cases h
  · split at h
    · cases h
      simp only [List.mem_cons, List.not_mem_nil, or_false, Prod.mk.injEq] at hm
      rcases hm with ⟨hc, rfl, rfl⟩ | ⟨hc, rfl, rfl⟩
      · exact ⟨print0 hc.symm lo H', rfl⟩
      · exact ⟨printg hc.symm (by decide) lo H', rfl⟩
    · cases h
  · split at h
    · cases h
      simp only [List.mem_cons, List.not_mem_nil, or_false, Prod.mk.injEq] at hm
      obtain ⟨hc, rfl, rfl⟩ := hm
      exact ⟨(hex8OK _).call (gh_plains rfl) lo H', rfl⟩
    · cases h
  · cases h
noncomputable def ljB : Code := loopIn (flat (bodyOf 16))[3]?
noncomputable def ljRun (D : Int → Inst) (B : Int → Bool) (E : Inst → Nat) (Pt : Inst → ByteArray) (Hx : Int → ByteArray) (l : List Code) (F : Fr) (H : Heap) (see : Exit → Fr → Heap → Res) : Res :=
  runL ((ctx (ljΦ D B E Pt Hx)).at_ 16) (callK (ctx (ljΦ D B E Pt Hx)) 20) 20 0 41 16 (keeps 16) l F H see
theorem fn16 : sigOf 16 = some (41, [.tmp 2]) := by kernel_rfl
theorem lj_flat : flat (bodyOf 16) = (flat (bodyOf 16)).take 3 ++ ([.block 0 (.loop ljB)] ++ (flat (bodyOf 16)).drop 4) := by kernel_rfl
def ljF (ws : List Int) (l : Value) (k : Int) : Fr := [(3, l), (10, LW ws), (11, .int .i64 (Int.ofNat ws.length)), (12, .int .i64 k)]
section
variable (D : Int → Inst) (B : Int → Bool) (E : Inst → Nat) (Pt : Inst → ByteArray) (Hx : Int → ByteArray)
/-- A word's line. -/
def ljT (w : Int) (app : ByteArray → Res) : Res :=
  bif B w then (bif Nat.beq (E (D w)) 0 then app (Pt (D w)) else bif Nat.beq (E (D w)) 1 then (bif okLen (bs wdL) (Hx w) then app (bs wdL ++ Hx w) else none) else none)
  else (bif Nat.beq (E (D w)) 0 then (bif okLen (bs wdL) (Hx w) then app (bs wdL ++ Hx w) else none) else bif Nat.beq (E (D w)) 1 then (bif okLen (bs wdL) (Hx w) then app (bs wdL ++ Hx w) else none) else none)
theorem lj_head (ws : List Int) : ljRun D B E Pt Hx ((flat (bodyOf 16)).take 3) (enterF 0 [LW ws]) [] (seeA [3, 10, 11, 12]) = some (.normal, (ljF ws nilV 0).map (fun e => some e.2), []) := by kernel_rfl
theorem lj_rnd0 (ws : List Int) (K : Nat) : ljRun D B E Pt Hx (flat ljB) (ljF ws nilV (Int.ofNat K)) [] (seeA [3, 10, 11, 12]) =
    bif decide (Int.ofNat K < Int.ofNat ws.length) then ldWG ws K (ljT D B E Pt Hx (toInt (ldW ws K)) fun s => some (.normal, (ljF ws (sl 2 1 1) (w64 (Int.ofNat K + 1))).map (fun e => some e.2), [some ⟨instC (D (toInt (ldW ws K))), 24, none⟩, some ⟨[.string s], 9, none⟩, some ⟨[.string s], 9, none⟩]))
    else some (.exit 0, (ljF ws nilV (Int.ofNat K)).map (fun e => some e.2), []) := by kernel_rfl
theorem lj_rnd1 (ws : List Int) (K m : Nat) (cs : List Value) : ljRun D B E Pt Hx (flat ljB) (ljF ws (sl 0 (m + 1) 1) (Int.ofNat K)) [some ⟨cs, 9, none⟩] (seeA [3, 10, 11, 12]) =
    bif decide (Int.ofNat K < Int.ofNat ws.length) then ldWG ws K (ljT D B E Pt Hx (toInt (ldW ws K)) fun s => bif moreG cs.length (m + 1) 1 16 then some (.normal, (ljF ws (sl 3 (m + 1 + 1) 1) (w64 (Int.ofNat K + 1))).map (fun e => some e.2), [none, some ⟨instC (D (toInt (ldW ws K))), 24, none⟩, some ⟨[.string s], 9, none⟩, some ⟨cs ++ [.string s], 9, none⟩]) else none)
    else some (.exit 0, (ljF ws (sl 0 (m + 1) 1) (Int.ofNat K)).map (fun e => some e.2), [some ⟨cs, 9, none⟩]) := by kernel_rfl
theorem lj_end (l : Value) : ljRun D B E Pt Hx ((flat (bodyOf 16)).drop 4) [(3, l)] [] (seeA [2]) = some (.ret, [some l], []) := by kernel_rfl
end
theorem lj_d1 : ((flat (bodyOf 16)).take 3).all (drawsOK ((ctx noΦ).dr 16)) = true := by kernel_rfl
theorem lj_d2 : (flat ljB).all (drawsOK ((ctx noΦ).dr 16)) = true := by kernel_rfl
theorem lj_d3 : ((flat (bodyOf 16)).drop 4).all (drawsOK ((ctx noΦ).dr 16)) = true := by kernel_rfl
/-- The line of a word. -/
noncomputable def lineS (w : Int) : ByteArray := bif (Isa.dec w).2 then textS (Isa.dec w).1 else rawS w
theorem encE_dec {w : Int} (h : W32 w) (hd : (Isa.dec w).2 = true) : encE (Isa.dec w).1 = 0 ∧ encW (Isa.dec w).1 = w := by
  have e := enc_dec h hd
  rcases encV_cases (Isa.dec w).1 with ⟨a, b⟩ | ⟨a, b⟩ | ⟨a, b⟩ | ⟨a, b⟩
  · rw [e] at b
    refine ⟨a, ?_⟩
    injection b with b
    injection b with b
    injection b with b1 _
    injection b1 with _ b1
    exact b1.symm
  all_goals (rw [e] at b; injection b with b; injection b with b; injection b with _ b; injection b with b _; cases b)
theorem decL_false {w : Int} : ∀ {l : List Isa.Row}, (Isa.decL l w).2 = false → (Isa.decL l w).1 = noInst
  | [], h => rfl
  | r :: l, h => by
    cases hb : Isa.fitsB r.form r.opc r.f3 r.f7 w with
    | true => simp only [Isa.decL, hb, cond_true] at h; cases h
    | false => simp only [Isa.decL, hb, cond_false] at h ⊢; exact decL_false h
theorem noInst_enc : encE noInst = 1 := by kernel_rfl
theorem ljT_eq {w : Int} (h : W32 w) (app : ByteArray → Res) : ljT (fun w => (Isa.dec w).1) (fun w => (Isa.dec w).2) encE textS (fun w => bs (hx8 w)) w app = app (lineS w) := by
  unfold ljT lineS
  show (bif (Isa.dec w).2 then (bif Nat.beq (encE (Isa.dec w).1) 0 then app (textS (Isa.dec w).1) else bif Nat.beq (encE (Isa.dec w).1) 1 then (bif okLen (bs wdL) (bs (hx8 w)) then app (bs wdL ++ bs (hx8 w)) else none) else none)
    else (bif Nat.beq (encE (Isa.dec w).1) 0 then (bif okLen (bs wdL) (bs (hx8 w)) then app (bs wdL ++ bs (hx8 w)) else none) else bif Nat.beq (encE (Isa.dec w).1) 1 then (bif okLen (bs wdL) (bs (hx8 w)) then app (bs wdL ++ bs (hx8 w)) else none) else none)) = _
  cases hd : (Isa.dec w).2 with
  | true =>
    rw [(encE_dec h hd).1]; rfl
  | false =>
    have e : (Isa.dec w).1 = noInst := decL_false hd
    rw [e, noInst_enc, raw_len, ← bs_cat]; rfl
noncomputable def ljC (ws : List Int) (k : Nat) : List Value := ((ws.take k).map lineS).map Value.string
noncomputable def ljH (ws : List Int) (k : Nat) : Heap := match k with
  | 0 => []
  | k + 1 => [some ⟨ljC ws (k + 1), 9, none⟩]
noncomputable def ljFk (ws : List Int) (k : Nat) : Fr := ljF ws (sliV 0 k 1) (Int.ofNat k)
theorem ljC_succ {ws : List Int} {k : Nat} (hk : k < ws.length) : ljC ws (k + 1) = ljC ws k ++ [.string (lineS (ws.getD k 0))] := by
  unfold ljC
  rw [List.take_add_one, List.getD_eq_getElem?_getD, List.getElem?_eq_getElem hk, List.map_append, List.map_append]
  rfl
theorem ljC_len {ws : List Int} {k : Nat} (hk : k ≤ ws.length) : (ljC ws k).length = k := by
  unfold ljC; rw [List.length_map, List.length_map, List.length_take]; omega
theorem lj_slots {ws : List Int} {k : Int} (j m : Nat) : ∀ e ∈ ljF ws (sl 0 (m + 1) 1) k, ((ljF ws (sl j (m + 1) 1) k).get e.1 = some e.2 ∧ Gh e.2) ∨ ∃ m' z, 0 < z ∧ (ljF ws (sl j (m + 1) 1) k).get e.1 = some (.slice (some ⟨j, 0, none⟩) m' z) ∧ e.2 = .slice (some ⟨0, 0, none⟩) m' z := fun e he => by
  simp only [ljF, List.mem_cons, List.not_mem_nil, or_false] at he
  rcases he with rfl | rfl | rfl | rfl
  · exact .inr ⟨m + 1, 1, by omega, rfl, rfl⟩
  · exact .inl ⟨rfl, LW_gh _⟩
  · exact .inl ⟨rfl, gh_int _ _⟩
  · exact .inl ⟨rfl, gh_int _ _⟩
theorem lj_round {ws : List Int} (hl : ws.length ≤ 1000000) (hw : ∀ w ∈ ws, W32 w) {k : Nat} (hk : k < ws.length) : GcOK Tryz.prog 0 0 41 ljB (ljFk ws k) (ljH ws k) .normal (ljFk ws (k + 1)) (ljH ws (k + 1)) := by
  have hd : decide (Int.ofNat k < Int.ofNat ws.length) = true := decide_eq_true (by simp; omega)
  have ew : w64 (Int.ofNat k + 1) = Int.ofNat (k + 1) := w64_of (by simp; omega) (by simp; omega)
  have hwk : W32 (ws.getD k 0) := hw _ (by rw [List.getD_eq_getElem?_getD, List.getElem?_eq_getElem hk]; exact List.getElem_mem hk)
  have et : toInt (ldW ws k) = ws.getD k 0 := by rw [ldW_eq hk]; rfl
  have eH : ljH ws (k + 1) = [some ⟨ljC ws k ++ [.string (lineS (ws.getD k 0))], 9, none⟩] := by
    show [some (Blk.mk (ljC ws (k + 1)) 9 none)] = _
    rw [ljC_succ hk]
  have gC : ∀ x ∈ ljC ws k ++ [.string (lineS (ws.getD k 0))], Gh x := fun x hx => by
    rcases List.mem_append.1 hx with hx | hx
    · exact strs_gh _ x hx
    · simp at hx; subst hx; exact gh_str _
  rw [eH]
  cases k with
  | zero =>
    have h := lj_rnd0 (fun w => (Isa.dec w).1) (fun w => (Isa.dec w).2) encE textS (fun w => bs (hx8 w)) ws 0
    rw [hd, cond_true, ldWG_eq hk, et, ljT_eq hwk, ew] at h
    have r := RowOK.go (base := 0) (RowOK.of_seeA ljΦ_ok (m := 20) (j := 20) (f := 16) (p := keeps 16) (ts := [3, 10, 11, 12]) rfl lj_d2 h)
    exact GoOK.code (GoOK.one r 2 rfl rfl gC (lj_slots 2 0))
  | succ m =>
    have h := lj_rnd1 (fun w => (Isa.dec w).1) (fun w => (Isa.dec w).2) encE textS (fun w => bs (hx8 w)) ws (m + 1) m (ljC ws (m + 1))
    rw [hd, cond_true, ldWG_eq hk, et, ljT_eq hwk, ew, moreG_eq (by rw [ljC_len (by omega)]; omega) (by omega) (by omega)] at h
    have r := RowOK.go (base := 0) (RowOK.of_seeA ljΦ_ok (m := 20) (j := 20) (f := 16) (p := keeps 16) (ts := [3, 10, 11, 12]) rfl lj_d2 h)
    exact GoOK.code (GoOK.one r 3 rfl rfl gC (lj_slots 3 (m + 1)))
theorem lj_hend {ws : List Int} : GcOK Tryz.prog 0 0 41 ljB (ljFk ws ws.length) (ljH ws ws.length) (.exit 0) (ljFk ws ws.length) (ljH ws ws.length) := by
  have hd : decide (Int.ofNat ws.length < Int.ofNat ws.length) = false := decide_eq_false (by simp)
  cases hl : ws.length with
  | zero =>
    have h := lj_rnd0 (fun w => (Isa.dec w).1) (fun w => (Isa.dec w).2) encE textS (fun w => bs (hx8 w)) ws 0
    rw [hl] at hd h
    rw [hd, cond_false] at h
    exact GoOK.code (RowOK.go (RowOK.of_seeA (F2 := ljFk ws 0) ljΦ_ok (m := 20) (j := 20) (f := 16) (p := keeps 16) (ts := [3, 10, 11, 12]) rfl lj_d2 h))
  | succ m =>
    have h := lj_rnd1 (fun w => (Isa.dec w).1) (fun w => (Isa.dec w).2) encE textS (fun w => bs (hx8 w)) ws (m + 1) m (ljC ws (m + 1))
    rw [hl] at hd h
    rw [hd, cond_false] at h
    exact GoOK.code (RowOK.go (RowOK.of_seeA (F2 := ljFk ws (m + 1)) ljΦ_ok (m := 20) (j := 20) (f := 16) (p := keeps 16) (ts := [3, 10, 11, 12]) rfl lj_d2 h))
theorem linesOK {ws : List Int} (hl : ws.length ≤ 1000000) (hw : ∀ w ∈ ws, W32 w) : PureOK Tryz.prog 16 [LW ws] (LS (ws.map lineS)) := by
  have g1 := RowOK.go (base := 0) (RowOK.of_seeA (F2 := ljFk ws 0) ljΦ_ok (m := 20) (j := 20) (f := 16) (p := keeps 16) (ts := [3, 10, 11, 12]) rfl lj_d1 (lj_head (fun w => (Isa.dec w).1) (fun w => (Isa.dec w).2) encE textS (fun w => bs (hx8 w)) ws))
  have lp := (GcOK.block (id := 0) (GcOK.loop (P := Tryz.prog) (lo := 0) (base := 0) (n := 41) (c := ljB) (ljFk ws) (ljH ws) ws.length (e := .exit 0) (by intro h; cases h) (fun j hj => lj_round hl hw hj) lj_hend)).row
  have eC : ljC ws ws.length = (ws.map lineS).map Value.string := by unfold ljC; rw [List.take_length]
  have fz : GoOK Tryz.prog 0 0 41 [.block 0 (.loop ljB)] (ljFk ws 0) (ljH ws 0) .normal [(3, LS (ws.map lineS))] [] := by
    refine GoOK.freeze lp (fun e he => ?_)
    simp only [List.mem_cons, List.not_mem_nil, or_false] at he
    subst he
    refine ⟨sliV 0 ws.length 1, rfl, ?_⟩
    cases hl : ws.length with
    | zero =>
      have : ws = [] := List.eq_nil_of_length_eq_zero hl
      subst this
      exact .inr (.inr ⟨1, rfl, rfl⟩)
    | succ m =>
      have lcl : ((ws.map lineS).map Value.string).length = (m + 1) * 1 := by rw [List.length_map, List.length_map, hl]; omega
      refine .inr (.inl ⟨0, m + 1, 1, (ws.map lineS).map Value.string, 9, by omega, rfl, ?_, by rw [lcl]; exact Nat.le_refl _, strs_gh _, ?_⟩)
      · show some (some (Blk.mk (ljC ws (m + 1)) 9 none)) = _
        rw [← hl, eC]
      · rw [List.take_of_length_le (by rw [lcl]; exact Nat.le_refl _)]
        unfold LS; rw [List.length_map, hl]
  have tl : GoOK Tryz.prog 0 0 41 ((flat (bodyOf 16)).drop 4) [(3, LS (ws.map lineS))] [] .ret [(2, LS (ws.map lineS))] [] :=
    RowOK.go (RowOK.of_seeA ljΦ_ok (m := 20) (j := 20) (f := 16) (p := keeps 16) (ts := [2]) rfl lj_d3 (lj_end _ _ _ _ _ (LS (ws.map lineS))))
  have all := g1.app (fz.app tl)
  rw [← lj_flat] at all
  obtain ⟨fn, f1, f2, f3, f4⟩ := fnOf fn16
  have hc := CallOK.of_go noOK (f := 16) (fn := fn) (c := bodyOf 16) (args := [LW ws]) (l := [LS (ws.map lineS)]) (H := []) f1 f2 (by rw [f3]; simp) (by rw [f3]; exact GoOK.code all) (.inr rfl) (by rw [f4]; rfl)
  exact PureOK.of_call hc (LS_gh _)
end Go.Proofs.YtgkicojmgokinaaGreatDoor.Ab
