/- strconv.ParseUint at base 16 and 12 bits, of whatever string. -/
import Derived.Test.YtgkicojmgokinaaGreatDoorShelf
import Derived.Lib.Strings
import Derived.Lib.Walk
import Derived.Lib.ConvBytes
import Derived.Lib.AtoiAllMem
import Derived.Lib.AtoiErrMem
import Derived.Lib.ParseIntBMem
import Derived.Lib.Hide
import Derived.Laws.Strings3
import Derived.Laws.Closers25
import Derived.Laws.Closers25b
import Derived.WalkKit
import Derived.BigCall
import Derived.BigGuard
namespace Go.Proofs.YtgkicojmgokinaaGreatDoor
open Go Go.Shelf Go.RowKit
set_option linter.unusedVariables false
set_option linter.unusedSimpArgs false
/-- A byte, its letter made small. -/
def lowB (n : Nat) : Int := bits .or .u8 (n : Int) 32
/-- The value of a hexadecimal digit. -/
def hexV (n : Nat) : Option Nat :=
  if 48 ≤ n ∧ n ≤ 57 then some (n - 48) else if 97 ≤ lowB n ∧ lowB n ≤ 102 then some ((lowB n).toNat - 87) else none
/-- ParseUint(s, 16, 12) behind its test for the empty string. -/
def parse16 (acc : Nat) : List UInt8 → Lib.NumEnd Nat
  | [] => .ok acc
  | c :: r => match hexV c.toNat with
    | none => Lib.NumEnd.syntax
    | some d => if 4095 < acc * 16 + d then .range else parse16 (acc * 16 + d) r
def parseHex (l : List UInt8) : Lib.NumEnd Nat := if l = [] then Lib.NumEnd.syntax else parse16 0 l
theorem hexV_lt {n d : Nat} (h : hexV n = some d) : d < 16 := by
  unfold hexV at h
  split at h
  · cases h; omega
  · split at h
    · cases h; omega
    · cases h
set_option maxHeartbeats 32000000 in
set_option maxRecDepth 100000 in
theorem parseHex_ne (t : ByteArray) (hne : t.size ≠ 0) (hmax : t.size ≤ 9223372036854775806) (w : World) :
    Calls Tryz.prog 131 #[.string t, .int .i64 16, .int .i64 12] w fun e w' => e = .returned (Lib.uintTupleM 179 4095 (parse16 0 t.data.toList)) ∧ w' = Lib.bytesWorld w 5 t := by
  have hemp : t.toList.isEmpty = false := by
    rw [← decide_eq_emptyBytes]
    exact decide_eq_false (fun h => hne (by rw [h]; rfl))
  have hcv := Lib.run_convert_string_bytes (P := Tryz.prog) w 9 54 5 t (u := .string) Tryz.underlying9 Tryz.underlying54 Tryz.underlying5
  have hB : ∀ j, j < t.size → (Lib.bytesWorld w 5 t).cell? ⟨w.heap.size, j, none⟩ = some (.int .u8 (t.data.toList.getD j 0).toNat) := fun j hj => Lib.bytesWorld_cell w 5 t j hj
  obtain ⟨W1, hW1⟩ : ∃ W1, W1 = Lib.bytesWorld w 5 t := ⟨_, rfl⟩
  rw [← hW1] at hcv hB ⊢
  clear hW1
  obtain ⟨bs, hL⟩ : ∃ bs, bs = t.data.toList := ⟨_, rfl⟩
  have hLn : bs.length = t.size := by rw [hL, Lib.size_eq]
  rw [← hL] at hB ⊢
  clear hL
  have hmv : IntKind.u64.wrap (IntKind.u64.wrap 4096 - 1) = 4095 := by
    rw [IntKind.wrap_u64, IntKind.wrap_u64]
    decide
  go_enter Tryz.func131, Tryz.ntmps131
  go_wp2
  go_loop [12, 13, 101] (fun vu vn vi => ∃ (k acc : Nat) (a : Int), vu = .bool false ∧ vn = .int .u64 a ∧ vi = .int .i64 k ∧ k ≤ t.size ∧ Hid (a = (acc : Int) ∧ acc < 4096 ∧ parse16 0 bs = parse16 acc (bs.drop k)))
    (fun _ _ vi => t.size - (intOf vi).toNat)
  case atStart => exact ⟨0, 0, 0, rfl, rfl, rfl, by omega, rfl, by omega, rfl⟩
  case round =>
    obtain ⟨k, acc, a, rfl, rfl, rfl, hk, hh⟩ := hrel
    obtain ⟨ha, hacc, hdec⟩ := hh.out
    clear hh
    have a0 : 0 ≤ a := by omega
    have a1 : a < 4096 := by omega
    by_cases hkn : k < t.size
    · have hc := hB k hkn
      have hdrop : bs.drop k = bs[k]'(by omega) :: bs.drop (k + 1) := List.drop_eq_getElem_cons (by omega)
      have hget : bs.getD k 0 = bs[k]'(by omega) := by simp [List.getD, List.getElem?_eq_getElem (show k < bs.length by omega)]
      rw [hdrop] at hdec
      rw [hget] at hc
      generalize bs[k]'(by omega) = c at hc hdec
      have hc256 : c.toNat < 256 := c.toNat_lt
      clear hB hdrop hget
      by_cases hdig : 48 ≤ c.toNat ∧ c.toNat ≤ 57
      · have hx : hexV c.toNat = some (c.toNat - 48) := by unfold hexV; rw [if_pos hdig]
        obtain ⟨hd0, hd1⟩ := hdig
        by_cases hov : 4095 < acc * 16 + (c.toNat - 48)
        · have hF : parse16 acc (c :: bs.drop (k + 1)) = .range := by simp [parse16, hx, hov]
          rw [hF] at hdec
          have iov : 4095 < a * 16 + ((c.toNat : Int) - 48) := by omega
          clear hacc hF hov ha hx
          go_wp2
          go_ret2
          exact ⟨rfl, rfl⟩
        · have hF : parse16 acc (c :: bs.drop (k + 1)) = parse16 (acc * 16 + (c.toNat - 48)) (bs.drop (k + 1)) := by simp [parse16, hx, hov]
          have HN : Hid (a * 16 + ((c.toNat : Int) - 48) = ((acc * 16 + (c.toNat - 48) : Nat) : Int) ∧ acc * 16 + (c.toNat - 48) < 4096 ∧ parse16 0 bs = parse16 (acc * 16 + (c.toNat - 48)) (bs.drop (k + 1))) := Lib.hid ⟨by omega, by omega, hdec.trans hF⟩
          have iov : a * 16 + ((c.toNat : Int) - 48) ≤ 4095 := by omega
          clear hacc hF hov hdec ha hx
          go_wp2
          refine ⟨⟨k + 1, acc * 16 + (c.toNat - 48), a * 16 + ((c.toNat : Int) - 48), rfl, (by first | rfl | (congr 1; omega)), (by first | rfl | (congr 1; omega)), by omega, HN⟩, by simp [intOf]; omega⟩
      · by_cases h95 : (c.toNat : Int) = 95
        · have hl95 : bits .or .u8 95 32 = 127 := by kernel_rfl
          have hx : hexV c.toNat = none := by
            have : c.toNat = 95 := by omega
            rw [this]
            exact (show hexV 95 = none by kernel_rfl)
          have hF : parse16 acc (c :: bs.drop (k + 1)) = Lib.NumEnd.syntax := by simp [parse16, hx]
          rw [hF] at hdec
          rw [h95] at hc
          have hlow : ∀ W, Calls Tryz.prog 148 #[.int .u8 95] W fun e w' => e = .returned (.int .u8 127) ∧ w' = W := fun W => by
            have := Tryz.internal_strconv_lower 95 W
            rwa [hl95] at this
          clear hacc hF ha hx hdig
          go_wp2_with (go_at_call 148; refine (hlow _).mono ?_; rintro e w' ⟨rfl, rfl⟩)
          all_goals go_ret2
          all_goals first | exact ⟨rfl, rfl⟩ | exact ⟨by rw [hdec]; rfl, rfl⟩
        obtain ⟨L, hL⟩ : ∃ L, bits .or .u8 (c.toNat : Int) 32 = L := ⟨_, rfl⟩
        have hlow : ∀ W, Calls Tryz.prog 148 #[.int .u8 (c.toNat : Int)] W fun e w' => e = .returned (.int .u8 L) ∧ w' = W := fun W => by
          have := Tryz.internal_strconv_lower (c.toNat : Int) W
          rwa [hL] at this
        have hl0 : 0 ≤ L := by rw [← hL]; exact bits_lo_u8 .or (c.toNat : Int) 32
        have hl1 : L < 256 := by rw [← hL]; have := bits_hi_u8 .or (c.toNat : Int) 32; omega
        have hlb : lowB c.toNat = L := hL
        by_cases hlet : 97 ≤ L ∧ L ≤ 102
        · have hx : hexV c.toNat = some (L.toNat - 87) := by unfold hexV; rw [if_neg hdig, hlb, if_pos hlet]
          obtain ⟨hd0, hd1⟩ := hlet
          clear hL hlb
          by_cases hov : 4095 < acc * 16 + (L.toNat - 87)
          · have hF : parse16 acc (c :: bs.drop (k + 1)) = .range := by simp [parse16, hx, hov]
            rw [hF] at hdec
            have iov : 4095 < a * 16 + (L - 87) := by omega
            clear hacc hF hov ha hx
            go_wp2_with (go_at_call 148; refine (hlow _).mono ?_; rintro e w' ⟨rfl, rfl⟩)
            all_goals go_ret2
            all_goals first | exact ⟨rfl, rfl⟩ | exact ⟨by rw [hdec]; rfl, rfl⟩
          · have hF : parse16 acc (c :: bs.drop (k + 1)) = parse16 (acc * 16 + (L.toNat - 87)) (bs.drop (k + 1)) := by simp [parse16, hx, hov]
            have HN : Hid (a * 16 + (L - 87) = ((acc * 16 + (L.toNat - 87) : Nat) : Int) ∧ acc * 16 + (L.toNat - 87) < 4096 ∧ parse16 0 bs = parse16 (acc * 16 + (L.toNat - 87)) (bs.drop (k + 1))) := Lib.hid ⟨by omega, by omega, hdec.trans hF⟩
            have iov : a * 16 + (L - 87) ≤ 4095 := by omega
            clear hacc hF hov hdec ha hx
            go_wp2_with (go_at_call 148; refine (hlow _).mono ?_; rintro e w' ⟨rfl, rfl⟩)
            all_goals exact ⟨⟨k + 1, acc * 16 + (L.toNat - 87), a * 16 + (L - 87), rfl, (by first | rfl | (congr 1; omega)), (by first | rfl | (congr 1; omega)), by omega, HN⟩, by simp [intOf]; omega⟩
        · have hx : hexV c.toNat = none := by unfold hexV; rw [if_neg hdig, hlb, if_neg hlet]
          have hF : parse16 acc (c :: bs.drop (k + 1)) = Lib.NumEnd.syntax := by simp [parse16, hx]
          rw [hF] at hdec
          clear hacc hF ha hL hlb hx
          go_wp2_with (go_at_call 148; refine (hlow _).mono ?_; rintro e w' ⟨rfl, rfl⟩)
          all_goals go_ret2
          all_goals first | exact ⟨rfl, rfl⟩ | exact ⟨by rw [hdec]; rfl, rfl⟩
    · have hkk : k = t.size := by omega
      subst hkk
      have hF : parse16 acc (bs.drop t.size) = .ok acc := by rw [List.drop_eq_nil_of_le (by omega)]; rfl
      rw [hF] at hdec
      subst ha
      clear hacc hF a0 a1
      go_wp2
      go_ret2
      exact ⟨rfl, rfl⟩
theorem parseHex_inner (t : ByteArray) (hmax : t.size ≤ 9223372036854775806) (w : World) :
    Calls Tryz.prog 131 #[.string t, .int .i64 16, .int .i64 12] w fun e w' => e = .returned (Lib.uintTupleM 179 4095 (parseHex t.data.toList)) ∧ Below w.heap.size w w' := by
  by_cases h0 : t.size = 0
  · have ht : t = ⟨#[]⟩ := by
      obtain ⟨⟨l⟩⟩ := t
      cases l with
      | nil => rfl
      | cons _ _ => simp [ByteArray.size] at h0
    subst ht
    exact (Tryz.internal_strconv_ParseUint_empty 16 12 w).mono fun e w' ⟨he, hw⟩ => ⟨he, by rw [hw]; exact Below.refl _ _⟩
  · have hne : t.data.toList ≠ [] := fun h => h0 (by rw [Lib.size_eq, h]; rfl)
    refine (parseHex_ne t h0 hmax w).mono fun e w' ⟨he, hw⟩ => ⟨?_, by rw [hw]; exact Lib.bytesWorld_below _ _ _⟩
    rw [he, parseHex, if_neg hne]
set_option maxHeartbeats 4000000 in
set_option maxRecDepth 100000 in
theorem parseUint16_ok (s : ByteArray) (hmax : s.size ≤ 9223372036854775806) (u : Nat) (h : parseHex s.data.toList = .ok u) (w : World) :
    Calls Tryz.prog 105 #[.string s, .int .i64 16, .int .i64 12] w fun e w' => e = .returned (.tuple #[.int .u64 u, .nilIface]) ∧ Below w.heap.size w w' := by
  have hI := parseHex_inner s hmax w
  rw [h] at hI
  have hI : Calls Tryz.prog 131 #[.string s, .int .i64 16, .int .i64 12] w fun e w' => e = .returned (.tuple #[.int .u64 u, .nilIface]) ∧ Below w.heap.size w w' := hI
  clear h
  go_enter Tryz.func105, Tryz.ntmps105
  go_wp2_with (go_at_call 131; refine hI.mono ?_; rintro e W1 ⟨rfl, hW⟩)
  go_wp2
  go_ret2
  exact ⟨rfl, hW⟩
set_option maxHeartbeats 4000000 in
set_option maxRecDepth 100000 in
theorem parseUint16_syntax (s : ByteArray) (hlim : s.size ≤ 281474976710656) (h : parseHex s.data.toList = Lib.NumEnd.syntax) (te : TypeId) (pe : Value) (w : World) (hv : w.cell? ⟨15, 0, none⟩ = some (.iface te pe)) :
    Calls Tryz.prog 105 #[.string s, .int .i64 16, .int .i64 12] w fun e w' => (∃ N, e = .returned (.tuple #[.int .u64 0, .iface 180 (.pointer (some ⟨N, 0, none⟩))])) ∧ Below w.heap.size w w' := by
  have hG : 15 < w.heap.size := Lib.lt_of_cell hv
  have hI := parseHex_inner s (by omega) w
  rw [h] at hI
  have hI : Calls Tryz.prog 131 #[.string s, .int .i64 16, .int .i64 12] w fun e w' => e = .returned (.tuple #[.int .u64 0, .iface 179 (.int .i64 2)]) ∧ Below w.heap.size w w' := hI
  clear h
  go_enter Tryz.func105, Tryz.ntmps105
  go_wp2_with (go_at_call 131; refine hI.mono ?_)
  rintro e W1 ⟨rfl, hb1⟩
  have hv1 : W1.cell? ⟨15, 0, none⟩ = some (.iface te pe) := (hb1.cell (show (⟨15, 0, none⟩ : Addr).block < w.heap.size from hG)).trans hv
  go_wp2_with (go_at_call 129; refine (Tryz.strconv_toError_syntax ⟨#[80, 97, 114, 115, 101, 85, 105, 110, 116]⟩ s 16 12 (.iface te pe) _ hlim ?_ (.inr ⟨te, pe, rfl⟩)).mono ?_)
  · exact hv1
  rintro e W2 ⟨N, rfl, h1, h2, h3⟩
  go_wp2
  go_ret2
  exact ⟨⟨N, rfl⟩, hb1.trans (h3.mono hb1.size)⟩
set_option maxHeartbeats 4000000 in
set_option maxRecDepth 100000 in
theorem parseUint16_range (s : ByteArray) (hlim : s.size ≤ 281474976710656) (h : parseHex s.data.toList = .range) (te : TypeId) (pe : Value) (w : World) (hv : w.cell? ⟨16, 0, none⟩ = some (.iface te pe)) :
    Calls Tryz.prog 105 #[.string s, .int .i64 16, .int .i64 12] w fun e w' => (∃ N, e = .returned (.tuple #[.int .u64 4095, .iface 180 (.pointer (some ⟨N, 0, none⟩))])) ∧ Below w.heap.size w w' := by
  have hG : 16 < w.heap.size := Lib.lt_of_cell hv
  have hI := parseHex_inner s (by omega) w
  rw [h] at hI
  have hI : Calls Tryz.prog 131 #[.string s, .int .i64 16, .int .i64 12] w fun e w' => e = .returned (.tuple #[.int .u64 4095, .iface 179 (.int .i64 1)]) ∧ Below w.heap.size w w' := hI
  clear h
  go_enter Tryz.func105, Tryz.ntmps105
  go_wp2_with (go_at_call 131; refine hI.mono ?_)
  rintro e W1 ⟨rfl, hb1⟩
  have hv1 : W1.cell? ⟨16, 0, none⟩ = some (.iface te pe) := (hb1.cell (show (⟨16, 0, none⟩ : Addr).block < w.heap.size from hG)).trans hv
  go_wp2_with (go_at_call 129; refine (Tryz.strconv_toError_range ⟨#[80, 97, 114, 115, 101, 85, 105, 110, 116]⟩ s 16 12 (.iface te pe) _ hlim ?_ (.inr ⟨te, pe, rfl⟩)).mono ?_)
  · exact hv1
  rintro e W2 ⟨N, rfl, h1, h2, h3⟩
  go_wp2
  go_ret2
  exact ⟨⟨N, rfl⟩, hb1.trans (h3.mono hb1.size)⟩
end Go.Proofs.YtgkicojmgokinaaGreatDoor
