/- Trimmed: AsmBad, AsmSayNum -/
import Derived.Test.YtgkicojmgokinaaGreatDoorAsmSame
import Derived.Test.YtgkicojmgokinaaGreatDoorAsmSayDig
namespace Go.Proofs.YtgkicojmgokinaaGreatDoor.Ab
open Go Go.RowKit
set_option linter.unusedVariables false
set_option linter.unusedSimpArgs false
def opsIn : Option Code → Array Oper
  | some (.region _ ops _) => ops
  | _ => #[]
end Go.Proofs.YtgkicojmgokinaaGreatDoor.Ab

namespace Go.Proofs.YtgkicojmgokinaaGreatDoor.Ab
open Go Go.RowKit
set_option linter.unusedVariables false
set_option linter.unusedSimpArgs false
set_option maxRecDepth 100000
def blkOf : Option Code → Code
  | some (.block _ c) => c
  | _ => .skip
def Lp (P : Program) (n : Nat) (c : Code) (F : Fr) (H : Heap) (e : Exit) (F' : Fr) (H' : Heap) : Prop :=
  ∃ (m : Nat) (Fs : Nat → Fr) (Hs : Nat → Heap), Fs 0 = F ∧ Hs 0 = H ∧ (∀ k, k < m → GcOK P 0 0 n c (Fs k) (Hs k) .normal (Fs (k + 1)) (Hs (k + 1))) ∧ GcOK P 0 0 n c (Fs m) (Hs m) e F' H'
theorem Lp.last {P : Program} {n : Nat} {c : Code} {F F' : Fr} {H H' : Heap} {e : Exit} (h : GcOK P 0 0 n c F H e F' H') : Lp P n c F H e F' H' :=
  ⟨0, fun _ => F, fun _ => H, rfl, rfl, fun k hk => absurd hk (by omega), h⟩
theorem Lp.step {P : Program} {n : Nat} {c : Code} {F F1 F' : Fr} {H H1 H' : Heap} {e : Exit} (h : GcOK P 0 0 n c F H .normal F1 H1) (k : Lp P n c F1 H1 e F' H') : Lp P n c F H e F' H' := by
  obtain ⟨m, Fs, Hs, h1, h2, h3, h4⟩ := k
  refine ⟨m + 1, fun k => match k with | 0 => F | k + 1 => Fs k, fun k => match k with | 0 => H | k + 1 => Hs k, rfl, rfl, fun k hk => ?_, h4⟩
  cases k with
  | zero => show GcOK P 0 0 n c F H .normal (Fs 0) (Hs 0); rw [h1, h2]; exact h
  | succ k => exact h3 k (by omega)
theorem Lp.loop {P : Program} {n : Nat} {c : Code} {F F' : Fr} {H H' : Heap} {e : Exit} (k : Lp P n c F H e F' H') (he : e ≠ .normal) : GcOK P 0 0 n (.loop c) F H e F' H' := by
  obtain ⟨m, Fs, Hs, rfl, rfl, h3, h4⟩ := k
  exact GcOK.loop Fs Hs m he h3 h4
def skipB (c : Int) : Bool := bif decide (c < 48) then c != 45 else bif decide (c > 57) then c != 45 else false
def hxB (base c : Int) : Bool := bif base == 16 then (bif decide (c ≥ 97) then decide (c ≤ 102) else false) else false
def contB (base c : Int) : Bool := bif decide (c ≥ 48) then (bif decide (c ≤ 57) then true else hxB base c) else hxB base c
def contU (base : Int) (c : UInt8) : Bool := contB base (c.toNat : Int)
def isHex (c : UInt8) (r : List UInt8) : Bool := c == 48 && r.head? == some 120
def preN (c : UInt8) (r : List UInt8) : List UInt8 := bif isHex c r then r.tail.takeWhile (contU 16) else c :: r.takeWhile (contU 10)
def baseN (c : UInt8) (r : List UInt8) : Int := bif isHex c r then 16 else 10
def restN (c : UInt8) (r : List UInt8) : List UInt8 := bif isHex c r then r.tail.dropWhile (contU 16) else r.dropWhile (contU 10)
def numO : Nat → List UInt8 → List Int → Option (List Int)
  | 0, _, acc => some acc
  | f + 1, [], acc => some acc
  | f + 1, c :: r, acc => bif skipB (c.toNat : Int) then numO f r acc else bif (digF (baseN c r) (preN c r)).2 then numO f (restN c r) (acc ++ [(digF (baseN c r) (preN c r)).1]) else none
noncomputable def nuΦ (G : Int → ByteArray → Bool) (Dn : Int → ByteArray → Int) (Dk : Int → ByteArray → Bool) : Oracle := fun lo f args H => match f with
  | 80 => match args with
    | [.string s, .int .i64 b] => some [(G b s, .tuple #[.int .i64 (Dn b s), .bool (Dk b s)], H)]
    | _ => none
  | _ => none
def nG (b : Int) (s : ByteArray) : Bool := (b == 10 || b == 16) && decide (s.size ≤ 100000)
def nD (b : Int) (s : ByteArray) : Int := (digF b s.data.toList).1
def nK (b : Int) (s : ByteArray) : Bool := (digF b s.data.toList).2
theorem nuΦ_ok : CtxOK Tryz.prog (ctx (nuΦ nG nD nK)) := ctxOK fun lo f args H l v H' h hm => by
  unfold nuΦ at h
  split at h
  · split at h
    · rename_i s b
      cases h
      simp only [List.mem_cons, List.not_mem_nil, or_false, Prod.mk.injEq] at hm
      obtain ⟨hc, rfl, rfl⟩ := hm
      have hc := hc.symm
      simp only [nG, Bool.and_eq_true, Bool.or_eq_true, beq_iff_eq, decide_eq_true_eq] at hc
      obtain ⟨h1, h2⟩ := hc
      have es : s = bs s.data.toList := rfl
      have hl : s.data.toList.length ≤ 100000 := h2
      rcases h1 with rfl | rfl
      · exact ⟨(digOK10 hl).call (gh_plains rfl) lo H', rfl⟩
      · exact ⟨(digOK16 hl).call (gh_plains rfl) lo H', rfl⟩
    · cases h
  · cases h
noncomputable def nuB : Code := loopIn (flat (bodyOf 44))[2]?
noncomputable def nuX : Code := blkOf (flat nuB)[2]?
noncomputable def nuI : Code := loopIn (flat nuX)[7]?
noncomputable def nuRun (G : Int → ByteArray → Bool) (Dn : Int → ByteArray → Int) (Dk : Int → ByteArray → Bool) (l : List Code) (F : Fr) (H : Heap) (see : Exit → Fr → Heap → Res) : Res := runL ((ctx (nuΦ G Dn Dk)).at_ 44) (callK (ctx (nuΦ G Dn Dk)) 20) 20 0 105 44 (keeps 44) l F H see
theorem fn44 : sigOf 44 = some (105, [.tmp 4]) := by kernel_rfl
theorem nu_flat : flat (bodyOf 44) = (flat (bodyOf 44)).take 2 ++ ([.block 0 (.loop nuB)] ++ (flat (bodyOf 44)).drop 3) := by kernel_rfl
theorem nuB_flat : flat nuB = (flat nuB).take 2 ++ [.block 1 nuX] := by kernel_rfl
theorem nuX_flat : flat nuX = (flat nuX).take 7 ++ ([.block 2 (.loop nuI)] ++ (((flat nuX).drop 8).take 3 ++ (flat nuX).drop 11)) := by kernel_rfl
def nuF (s : ByteArray) (A : Int) (v : Value) : Fr := [(0, .string s), (1, .int .i64 A), (5, v)]
def nuJ (s : ByteArray) (A : Int) (v : Value) (base E : Int) : Fr := [(0, .string s), (1, .int .i64 A), (5, v), (7, .int .i64 base), (8, .int .i64 E)]
def nuW (s : ByteArray) (A : Int) (v : Value) (E n : Int) : Fr := [(0, .string s), (1, .int .i64 A), (5, v), (8, .int .i64 E), (9, .int .i64 n)]
section
variable (G : Int → ByteArray → Bool) (Dn : Int → ByteArray → Int) (Dk : Int → ByteArray → Bool)
def oF (e : Exit) (F : Fr) (H : Heap) : Res := some (e, F.map (fun e => some e.2), H)
theorem nu_head (s : ByteArray) (A : Int) : nuRun G Dn Dk ((flat (bodyOf 44)).take 2) (enterF 0 [.string s, .int .i64 A]) [] (seeA [0, 1, 5]) = oF .normal (nuF s A nilV) [] := by kernel_rfl
theorem nu_a (s : ByteArray) (A : Nat) (v : Value) (H : Heap) : nuRun G Dn Dk ((flat nuB).take 2) (nuF s (Int.ofNat A) v) H (seeA [0, 1, 5]) = bif decide (Int.ofNat A < Int.ofNat s.size) then oF .normal (nuF s (Int.ofNat A) v) H else oF (.exit 0) (nuF s (Int.ofNat A) v) H := by kernel_rfl
def nuN (s : ByteArray) (A : Nat) (v : Value) (H : Heap) (z : Res) : Res :=
  bif byteAt s A == 48 then (bif decide (w64 (Int.ofNat A + 1) < Int.ofNat s.size) then (bif decide (0 ≤ w64 (Int.ofNat A + 1)) && Nat.blt (w64 (Int.ofNat A + 1)).toNat s.size then (bif byteAt s (w64 (Int.ofNat A + 1)).toNat == 120 then oF .normal (nuJ s (w64 (Int.ofNat A + 2)) v 16 (w64 (Int.ofNat A + 2))) H else z) else none) else z) else z
theorem nu_skip (s : ByteArray) (A : Nat) (v : Value) (H : Heap) : nuRun G Dn Dk ((flat nuX).take 7) (nuF s (Int.ofNat A) v) H (seeA [0, 1, 5]) =
    bif Nat.blt A s.size then (bif decide (byteAt s A < 48) then (bif byteAt s A != 45 then oF (.exit 1) (nuF s (w64 (Int.ofNat A + 1)) v) H else
      bif byteAt s A == 48 then (bif decide (w64 (Int.ofNat A + 1) < Int.ofNat s.size) then (bif decide (0 ≤ w64 (Int.ofNat A + 1)) && Nat.blt (w64 (Int.ofNat A + 1)).toNat s.size then (bif byteAt s (w64 (Int.ofNat A + 1)).toNat == 120 then oF .normal (nuF s (w64 (Int.ofNat A + 2)) v) H else oF .normal (nuF s (Int.ofNat A) v) H) else none) else oF .normal (nuF s (Int.ofNat A) v) H) else oF .normal (nuF s (Int.ofNat A) v) H) else
      bif decide (byteAt s A > 57) then (bif byteAt s A != 45 then oF (.exit 1) (nuF s (w64 (Int.ofNat A + 1)) v) H else
      bif byteAt s A == 48 then (bif decide (w64 (Int.ofNat A + 1) < Int.ofNat s.size) then (bif decide (0 ≤ w64 (Int.ofNat A + 1)) && Nat.blt (w64 (Int.ofNat A + 1)).toNat s.size then (bif byteAt s (w64 (Int.ofNat A + 1)).toNat == 120 then oF .normal (nuF s (w64 (Int.ofNat A + 2)) v) H else oF .normal (nuF s (Int.ofNat A) v) H) else none) else oF .normal (nuF s (Int.ofNat A) v) H) else oF .normal (nuF s (Int.ofNat A) v) H) else
      bif byteAt s A == 48 then (bif decide (w64 (Int.ofNat A + 1) < Int.ofNat s.size) then (bif decide (0 ≤ w64 (Int.ofNat A + 1)) && Nat.blt (w64 (Int.ofNat A + 1)).toNat s.size then (bif byteAt s (w64 (Int.ofNat A + 1)).toNat == 120 then oF .normal (nuF s (w64 (Int.ofNat A + 2)) v) H else oF .normal (nuF s (Int.ofNat A) v) H) else none) else oF .normal (nuF s (Int.ofNat A) v) H) else oF .normal (nuF s (Int.ofNat A) v) H) else none := by kernel_rfl
theorem nu_num (s : ByteArray) (A : Nat) (v : Value) (H : Heap) : nuRun G Dn Dk ((flat nuX).take 7) (nuF s (Int.ofNat A) v) H (seeA [0, 1, 5, 7, 8]) =
    bif Nat.blt A s.size then (bif decide (byteAt s A < 48) then (bif byteAt s A != 45 then some (.exit 1, [some (.string s), some (.int .i64 (w64 (Int.ofNat A + 1))), some v, none, none], H) else nuN s A v H (oF .normal (nuJ s (Int.ofNat A) v 10 (w64 (Int.ofNat A + 1))) H)) else
      bif decide (byteAt s A > 57) then (bif byteAt s A != 45 then some (.exit 1, [some (.string s), some (.int .i64 (w64 (Int.ofNat A + 1))), some v, none, none], H) else nuN s A v H (oF .normal (nuJ s (Int.ofNat A) v 10 (w64 (Int.ofNat A + 1))) H)) else
      nuN s A v H (oF .normal (nuJ s (Int.ofNat A) v 10 (w64 (Int.ofNat A + 1))) H)) else none := by kernel_rfl
def nuH (base : Int) (s : ByteArray) (E : Nat) (t f : Res) : Res := bif base == 16 then (bif Nat.blt E s.size then (bif decide (byteAt s E ≥ 97) then (bif Nat.blt E s.size then (bif decide (byteAt s E ≤ 102) then t else f) else none) else f) else none) else f
theorem nu_i (s : ByteArray) (A : Int) (E : Nat) (v : Value) (base : Int) (H : Heap) : nuRun G Dn Dk (flat nuI) (nuJ s A v base (Int.ofNat E)) H (seeA [0, 1, 5, 7, 8]) =
    bif decide (Int.ofNat E < Int.ofNat s.size) then (bif Nat.blt E s.size then (bif decide (byteAt s E ≥ 48) then (bif Nat.blt E s.size then (bif decide (byteAt s E ≤ 57) then oF .normal (nuJ s A v base (w64 (Int.ofNat E + 1))) H else
      nuH base s E (oF .normal (nuJ s A v base (w64 (Int.ofNat E + 1))) H) (oF (.exit 2) (nuJ s A v base (Int.ofNat E)) H)) else none) else
      nuH base s E (oF .normal (nuJ s A v base (w64 (Int.ofNat E + 1))) H) (oF (.exit 2) (nuJ s A v base (Int.ofNat E)) H)) else none) else oF (.exit 2) (nuJ s A v base (Int.ofNat E)) H := by kernel_rfl
theorem nu_d (s : ByteArray) (A E : Nat) (v : Value) (base : Int) (H : Heap) : nuRun G Dn Dk (((flat nuX).drop 8).take 3) (nuJ s (Int.ofNat A) v base (Int.ofNat E)) H (seeA [0, 1, 5, 8, 9]) =
    bif Nat.ble A E && Nat.ble E s.size then (bif G base (s.extract A E) then (bif Dk base (s.extract A E) then oF .normal (nuW s (Int.ofNat A) v (Int.ofNat E) (Dn base (s.extract A E))) H else oF .ret (nuW s (Int.ofNat A) v (Int.ofNat E) (Dn base (s.extract A E))) H) else none) else none := by kernel_rfl
theorem nu_dr (s : ByteArray) (A E : Nat) (v : Value) (base : Int) (H : Heap) : nuRun G Dn Dk (((flat nuX).drop 8).take 3) (nuJ s (Int.ofNat A) v base (Int.ofNat E)) H (seeA [4]) =
    bif Nat.ble A E && Nat.ble E s.size then (bif G base (s.extract A E) then (bif Dk base (s.extract A E) then some (.normal, [none], H) else some (.ret, [some nilV], H)) else none) else none := by kernel_rfl
def mxI (a b : Int) : Int := bif true then if a > b then a else b else if a < b then a else b
theorem nu_e0 (s : ByteArray) (A : Int) (E n : Int) : nuRun G Dn Dk ((flat nuX).drop 11) (nuW s A nilV E n) [] (seeA [0, 1, 5]) = oF .normal (nuF s (mxI (w64 (A + 1)) E) (sl 1 1 1)) [some ⟨[.int .i64 n], 3, none⟩, some ⟨[.int .i64 n], 3, none⟩] := by kernel_rfl
theorem nu_e1 (s : ByteArray) (A : Int) (E n : Int) (m : Nat) (cs : List Value) : nuRun G Dn Dk ((flat nuX).drop 11) (nuW s A (sl 0 (m + 1) 1) E n) [some ⟨cs, 3, none⟩] (seeA [0, 1, 5]) = bif moreG cs.length (m + 1) 1 8 then oF .normal (nuF s (mxI (w64 (A + 1)) E) (sl 2 (m + 1 + 1) 1)) [none, some ⟨[.int .i64 n], 3, none⟩, some ⟨cs ++ [.int .i64 n], 3, none⟩] else none := by kernel_rfl
theorem nu_end (v : Value) (H : Heap) : nuRun G Dn Dk ((flat (bodyOf 44)).drop 3) [(5, v)] H (seeA [4]) = some (.ret, [some v], H) := by kernel_rfl
end
theorem nu_d1 : ((flat (bodyOf 44)).take 2).all (drawsOK ((ctx noΦ).dr 44)) = true := by kernel_rfl
theorem nu_d2 : ((flat nuB).take 2).all (drawsOK ((ctx noΦ).dr 44)) = true := by kernel_rfl
theorem nu_d3 : ((flat nuX).take 7).all (drawsOK ((ctx noΦ).dr 44)) = true := by kernel_rfl
theorem nu_d4 : (flat nuI).all (drawsOK ((ctx noΦ).dr 44)) = true := by kernel_rfl
theorem nu_d5 : (((flat nuX).drop 8).take 3).all (drawsOK ((ctx noΦ).dr 44)) = true := by kernel_rfl
theorem nu_d6 : ((flat nuX).drop 11).all (drawsOK ((ctx noΦ).dr 44)) = true := by kernel_rfl
theorem nu_d7 : ((flat (bodyOf 44)).drop 3).all (drawsOK ((ctx noΦ).dr 44)) = true := by kernel_rfl
end Go.Proofs.YtgkicojmgokinaaGreatDoor.Ab
