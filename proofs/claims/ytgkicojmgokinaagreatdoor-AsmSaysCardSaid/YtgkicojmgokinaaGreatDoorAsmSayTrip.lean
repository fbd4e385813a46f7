/- Trimmed: AsmSayTrip -/
import Derived.Test.YtgkicojmgokinaaGreatDoorAsmSayTok
namespace Go.Proofs.YtgkicojmgokinaaGreatDoor.Ab
open Go Go.RowKit
set_option linter.unusedVariables false
set_option linter.unusedSimpArgs false
set_option maxRecDepth 100000
theorem sg_rng (w : Int) : -1000000000000 < IntKind.i64.wrap (IntKind.i32.wrap w) ∧ IntKind.i64.wrap (IntKind.i32.wrap w) < 1000000000000 := by
  rw [IntKind.wrap_i64, IntKind.wrap_i32]; omega
theorem sg_back {w : Int} (h : W32 w) : IntKind.u32.wrap (IntKind.i64.wrap (IntKind.i32.wrap w)) = w := by
  have := h.1; have := h.2
  rw [IntKind.wrap_u32, IntKind.wrap_i64, IntKind.wrap_i32]; omega
theorem w_rng {w : Int} (h : W32 w) : -1000000000000 < IntKind.i64.wrap w ∧ IntKind.i64.wrap w < 1000000000000 := by
  have := h.1; have := h.2
  rw [i64_id h]; omega
def sgV (w : Int) : Int := IntKind.i64.wrap (IntKind.i32.wrap w)
def nsL (i : Inst) : Nat → List Int
  | 0 => [i.rd, IntKind.i64.wrap (i.imm.fdiv 4096)]
  | 1 => [i.rd, sgV i.imm]
  | 2 => [i.rd, sgV i.imm, i.rs1]
  | 3 => [i.rs1, i.rs2, sgV i.imm]
  | 4 => [i.rs2, sgV i.imm, i.rs1]
  | 5 => [i.rd, i.rs1, sgV i.imm]
  | 6 => [i.rd, i.rs1, IntKind.i64.wrap i.imm]
  | 7 => [i.rd, i.rs1, i.rs2]
  | 8 => [IntKind.i64.wrap (i.imm.fdiv 16), IntKind.i64.wrap (bits .and .u32 i.imm 15)]
  | 10 => [i.rs1, i.rs2]
  | 11 => [i.rd, i.csr, i.rs1]
  | 12 => [i.rd, i.csr, IntKind.i64.wrap i.imm]
  | 13 => [i.rd, i.rs1]
  | 14 => [i.rd, i.rs2, i.rs1]
  | _ => []
theorem toks {i : Inst} (g : Good i) (hw : W32 i.imm) (h16 : sortF i.op = 8 → -1000000000000 < IntKind.i64.wrap (i.imm.fdiv 16) ∧ IntKind.i64.wrap (i.imm.fdiv 16) < 1000000000000) : Nm (psL i (sortF i.op)).flatten [] (nsL i (sortF i.op)) := by
  have hd := g.fits.rd
  have h1 := g.fits.rs1
  have h2 := g.fits.rs2
  have hc := g.csr
  have h4 : -1000000000000 < IntKind.i64.wrap (i.imm.fdiv 4096) ∧ IntKind.i64.wrap (i.imm.fdiv 4096) < 1000000000000 := by
    have := hw.1; have := hw.2
    rw [Int.fdiv_eq_ediv_of_nonneg _ (by decide), IntKind.wrap_i64]; omega
  have hwr := w_rng hw
  have hsr := sg_rng i.imm
  have h15 : -1000000000000 < IntKind.i64.wrap (bits .and .u32 i.imm 15) ∧ IntKind.i64.wrap (bits .and .u32 i.imm 15) < 1000000000000 := by
    rw [and_lit 4 hw (by decide) (by decide), IntKind.wrap_i64]; omega
  have s32 : skipB (((32 : UInt8).toNat : Nat) : Int) = true := rfl
  have s40 : skipB (((40 : UInt8).toNat : Nat) : Int) = true := rfl
  have s41 : skipB (((41 : UInt8).toNat : Nat) : Int) = true := rfl
  have s44 : skipB (((44 : UInt8).toNat : Nat) : Int) = true := rfl
  have hs : sortF i.op ≤ 14 := by have := (sort_of g.fits.op).1; omega
  generalize hn : sortF i.op = n at *
  have hcase : n = 0 ∨ n = 1 ∨ n = 2 ∨ n = 3 ∨ n = 4 ∨ n = 5 ∨ n = 6 ∨ n = 7 ∨ n = 8 ∨ n = 9 ∨ n = 10 ∨ n = 11 ∨ n = 12 ∨ n = 13 ∨ n = 14 := by omega
  rcases hcase with rfl | rfl | rfl | rfl | rfl | rfl | rfl | rfl | rfl | rfl | rfl | rfl | rfl | rfl | rfl <;> simp only [psL, nsL, List.flatten_cons, List.flatten_nil, List.cons_append, List.nil_append]
  · exact (Nm.skip s32 (Nm.reg hd (Stop.cons (by decide)) (Nm.skip s44 (Nm.skip s32 (Nm.itoa h4 Stop.nil (Nm.nil _))))))
  · exact (Nm.skip s32 (Nm.reg hd (Stop.cons (by decide)) (Nm.skip s44 (Nm.skip s32 (Nm.itoa hsr Stop.nil (Nm.nil _))))))
  · exact (Nm.skip s32 (Nm.reg hd (Stop.cons (by decide)) (Nm.skip s44 (Nm.skip s32 (Nm.itoa hsr (Stop.cons (by decide)) (Nm.skip s40 (Nm.reg h1 (Stop.cons (by decide)) (Nm.skip s41 (Nm.nil _)))))))))
  · exact (Nm.skip s32 (Nm.reg h1 (Stop.cons (by decide)) (Nm.skip s44 (Nm.skip s32 (Nm.reg h2 (Stop.cons (by decide)) (Nm.skip s44 (Nm.skip s32 (Nm.itoa hsr Stop.nil (Nm.nil _)))))))))
  · exact (Nm.skip s32 (Nm.reg h2 (Stop.cons (by decide)) (Nm.skip s44 (Nm.skip s32 (Nm.itoa hsr (Stop.cons (by decide)) (Nm.skip s40 (Nm.reg h1 (Stop.cons (by decide)) (Nm.skip s41 (Nm.nil _)))))))))
  · exact (Nm.skip s32 (Nm.reg hd (Stop.cons (by decide)) (Nm.skip s44 (Nm.skip s32 (Nm.reg h1 (Stop.cons (by decide)) (Nm.skip s44 (Nm.skip s32 (Nm.itoa hsr Stop.nil (Nm.nil _)))))))))
  · exact (Nm.skip s32 (Nm.reg hd (Stop.cons (by decide)) (Nm.skip s44 (Nm.skip s32 (Nm.reg h1 (Stop.cons (by decide)) (Nm.skip s44 (Nm.skip s32 (Nm.itoa hwr Stop.nil (Nm.nil _)))))))))
  · exact (Nm.skip s32 (Nm.reg hd (Stop.cons (by decide)) (Nm.skip s44 (Nm.skip s32 (Nm.reg h1 (Stop.cons (by decide)) (Nm.skip s44 (Nm.skip s32 (Nm.reg h2 Stop.nil (Nm.nil _)))))))))
  · exact (Nm.skip s32 (Nm.itoa (h16 rfl) (Stop.cons (by decide)) (Nm.skip s44 (Nm.skip s32 (Nm.itoa h15 Stop.nil (Nm.nil _))))))
  · exact Nm.nil _
  · exact (Nm.skip s32 (Nm.reg h1 (Stop.cons (by decide)) (Nm.skip s44 (Nm.skip s32 (Nm.reg h2 Stop.nil (Nm.nil _))))))
  · exact (Nm.skip s32 (Nm.reg hd (Stop.cons (by decide)) (Nm.skip s44 (Nm.skip s32 (Nm.hex hc (Stop.cons (by decide)) (Nm.skip s44 (Nm.skip s32 (Nm.reg h1 Stop.nil (Nm.nil _)))))))))
  · exact (Nm.skip s32 (Nm.reg hd (Stop.cons (by decide)) (Nm.skip s44 (Nm.skip s32 (Nm.hex hc (Stop.cons (by decide)) (Nm.skip s44 (Nm.skip s32 (Nm.itoa hwr Stop.nil (Nm.nil _)))))))))
  · exact (Nm.skip s32 (Nm.reg hd (Stop.cons (by decide)) (Nm.skip s44 (Nm.skip s32 (Nm.skip s40 (Nm.reg h1 (Stop.cons (by decide)) (Nm.skip s41 (Nm.nil _))))))))
  · exact (Nm.skip s32 (Nm.reg hd (Stop.cons (by decide)) (Nm.skip s44 (Nm.skip s32 (Nm.reg h2 (Stop.cons (by decide)) (Nm.skip s44 (Nm.skip s32 (Nm.skip s40 (Nm.reg h1 (Stop.cons (by decide)) (Nm.skip s41 (Nm.nil _)))))))))))
theorem fence_b : (List.range 256).all (fun m => bits .or .u32 (IntKind.u32.wrap (IntKind.u32.wrap (IntKind.i64.wrap ((m : Int).fdiv 16)) * 16)) (bits .and .u32 (IntKind.u32.wrap (IntKind.i64.wrap (bits .and .u32 (m : Int) 15))) 15) == (m : Int)) = true := by kernel_rfl
theorem fence_lt {i : Inst} (g : Good i) (h8 : sortF i.op = 8) : i.imm < 256 := by
  have hf : formF i.op = 7 := by rw [(sort_of g.fits.op).2.1, h8]; rfl
  have hl := g.lay (by rw [hf]; rfl)
  rw [hf] at hl
  exact of_decide_eq_true (show decide (i.imm < 256) = true from hl)
theorem back {i : Inst} (g : Good i) (hw : W32 i.imm) : aqrl (readF i.op (nsL i (sortF i.op))) i.aq i.rl = i := by
  have hform := (sort_of g.fits.op).2.1
  have hs : sortF i.op ≤ 14 := by have := (sort_of g.fits.op).1; omega
  have s1 : IntKind.u32.wrap (sgV i.imm) = i.imm := sg_back hw
  have s2 : IntKind.u32.wrap (IntKind.i64.wrap i.imm) = i.imm := by rw [i64_id hw, u32_id hw]
  have s8 : sortF i.op = 8 → bits .or .u32 (IntKind.u32.wrap (IntKind.u32.wrap (IntKind.i64.wrap (i.imm.fdiv 16)) * 16)) (bits .and .u32 (IntKind.u32.wrap (IntKind.i64.wrap (bits .and .u32 i.imm 15))) 15) = i.imm := by
    intro h8
    have hlt := fence_lt g h8
    have := List.all_eq_true.1 fence_b i.imm.toNat (List.mem_range.2 (by have := hw.1; omega))
    rw [beq_iff_eq] at this
    rwa [show ((i.imm.toNat : Nat) : Int) = i.imm by have := hw.1; omega] at this
  have s0 : sortF i.op = 0 → IntKind.u32.wrap (IntKind.u32.wrap (IntKind.i64.wrap (i.imm.fdiv 4096)) * 4096) = i.imm := by
    intro h0
    have hf : formF i.op = 0 := by rw [hform, h0]; rfl
    have hl := g.lay (by rw [hf]; rfl)
    rw [hf] at hl
    have hm := layU_mod hw (show (layV 85 i.imm).2 = true from hl)
    have := hw.1; have := hw.2
    rw [Int.fdiv_eq_ediv_of_nonneg _ (by decide), IntKind.wrap_u32, IntKind.wrap_u32, IntKind.wrap_i64]; omega
  have z1 := g.rd0
  have z2 := g.rs10
  have z3 := g.rs20
  have z4 := g.csr0
  have z5 := g.imm0
  obtain ⟨op, rd, rs1, rs2, csr, imm, aq, rl⟩ := i
  simp only at *
  unfold readF aqrl
  rw [hform] at z1 z2 z3 z4 z5
  generalize hn : sortF op = n at *
  have hcase : n = 0 ∨ n = 1 ∨ n = 2 ∨ n = 3 ∨ n = 4 ∨ n = 5 ∨ n = 6 ∨ n = 7 ∨ n = 8 ∨ n = 9 ∨ n = 10 ∨ n = 11 ∨ n = 12 ∨ n = 13 ∨ n = 14 := by omega
  rcases hcase with rfl | rfl | rfl | rfl | rfl | rfl | rfl | rfl | rfl | rfl | rfl | rfl | rfl | rfl | rfl
  · simp only [rdS, nsL, List.getD_cons_zero, List.getD_cons_succ, List.getD_nil, z2 rfl, z3 rfl, z4 rfl, s0 rfl]
  · simp only [rdS, nsL, List.getD_cons_zero, List.getD_cons_succ, List.getD_nil, z2 rfl, z3 rfl, z4 rfl, s1]
  · simp only [rdS, nsL, List.getD_cons_zero, List.getD_cons_succ, List.getD_nil, z3 rfl, z4 rfl, s1]
  · simp only [rdS, nsL, List.getD_cons_zero, List.getD_cons_succ, List.getD_nil, z1 rfl, z4 rfl, s1]
  · simp only [rdS, nsL, List.getD_cons_zero, List.getD_cons_succ, List.getD_nil, z1 rfl, z4 rfl, s1]
  · simp only [rdS, nsL, List.getD_cons_zero, List.getD_cons_succ, List.getD_nil, z3 rfl, z4 rfl, s1]
  · simp only [rdS, nsL, List.getD_cons_zero, List.getD_cons_succ, List.getD_nil, z3 rfl, z4 rfl, s2]
  · simp only [rdS, nsL, List.getD_cons_zero, List.getD_cons_succ, List.getD_nil, z4 rfl, z5 rfl]
  · simp only [rdS, nsL, List.getD_cons_zero, List.getD_cons_succ, List.getD_nil, z1 rfl, z2 rfl, z3 rfl, z4 rfl, s8 rfl]
  · simp only [rdS, nsL, List.getD_cons_zero, List.getD_cons_succ, List.getD_nil, z1 rfl, z2 rfl, z3 rfl, z4 rfl, z5 rfl]
  · simp only [rdS, nsL, List.getD_cons_zero, List.getD_cons_succ, List.getD_nil, z1 rfl, z4 rfl, z5 rfl]
  · simp only [rdS, nsL, List.getD_cons_zero, List.getD_cons_succ, List.getD_nil, z3 rfl, z5 rfl]
  · simp only [rdS, nsL, List.getD_cons_zero, List.getD_cons_succ, List.getD_nil, z2 rfl, z3 rfl, s2]
  · simp only [rdS, nsL, List.getD_cons_zero, List.getD_cons_succ, List.getD_nil, z3 rfl, z4 rfl, z5 rfl]
  · simp only [rdS, nsL, List.getD_cons_zero, List.getD_cons_succ, List.getD_nil, z4 rfl, z5 rfl]
def nameK (k : Nat) (aq rl : Bool) : List UInt8 := names.getD k [] ++ (bif aq then [46, 97, 113] else []) ++ (bif rl then [46, 114, 108] else [])
def nameC (k : Nat) (aq rl : Bool) : Bool := (nameK k aq rl).all spC && (cutF [46, 114, 108] (nameK k aq rl) == (names.getD k [] ++ (bif aq then [46, 97, 113] else []), rl) && cutF [46, 97, 113] (names.getD k [] ++ (bif aq then [46, 97, 113] else [])) == (names.getD k [], aq))
theorem name_tab : (List.range 69).all (fun k => nameC k false false && (nameC k true false && (nameC k false true && nameC k true true))) = true := by kernel_rfl
theorem name_c {k : Nat} (h : k < 69) (aq rl : Bool) : nameC k aq rl = true := by
  have := List.all_eq_true.1 name_tab k (List.mem_range.2 h)
  simp only [Bool.and_eq_true] at this
  obtain ⟨a, b, c, d⟩ := this
  cases aq <;> cases rl <;> assumption
theorem name_ne : (List.range 69).all (fun k => (List.range k).all (fun j => !(names.getD j [] == names.getD k []))) = true := by kernel_rfl
theorem nm_toL {k : Nat} (h : k < 69) : (rrowAt k).nm.toList = names.getD k [] := by
  have := List.all_eq_true.1 nm_l k (List.mem_range.2 h)
  rw [beq_iff_eq] at this
  rw [Lib.toList_data, this]
theorem rows_at (L : List UInt8) (A : Nat) (b1 b2 : Bool) {K : Nat} (hK : K < 69) : ∀ (f k : Nat), k ≤ K → K < k + f → rowsF L A (bs (names.getD K [])) b1 b2 f k = hitF L A b1 b2 K
  | 0, k, h1, h2 => by omega
  | f + 1, k, h1, h2 => by
    have e : (bs (names.getD K [])).toList = names.getD K [] := by rw [Lib.toList_data]
    by_cases hk : k = K
    · subst hk
      have : ((rrowAt k).nm.toList == (bs (names.getD k [])).toList) = true := by rw [nm_toL hK, e]; exact beq_self_eq_true _
      simp only [rowsF, this, cond_true]
    · have hne := List.all_eq_true.1 (List.all_eq_true.1 name_ne K (List.mem_range.2 hK)) k (List.mem_range.2 (by omega))
      have : ((rrowAt k).nm.toList == (bs (names.getD K [])).toList) = false := by rw [nm_toL (by omega), e]; simpa using hne
      simp only [rowsF, this, cond_false]
      exact rows_at L A b1 b2 hK f (k + 1) (by omega) (by omega)
theorem ps_head (i : Inst) (n : Nat) : (psL i n).flatten = [] ∨ ∃ r, (psL i n).flatten = 32 :: r := by
  unfold psL
  split <;> first | exact .inl rfl | exact .inr ⟨_, rfl⟩
theorem sp_name {p q : List UInt8} (hp : p.all spC = true) (hq : q = [] ∨ ∃ r, q = 32 :: r) : (p ++ q).takeWhile spC = p := by
  induction p with
  | nil =>
    rcases hq with rfl | ⟨r, rfl⟩
    · rfl
    · rw [List.nil_append, List.takeWhile_cons, show spC 32 = false from rfl]; rfl
  | cons c p ih =>
    simp only [List.all_cons, Bool.and_eq_true] at hp
    rw [List.cons_append, List.takeWhile_cons, hp.1, if_pos rfl, ih hp.2]
theorem rtrip {i : Inst} (h : encE i = 0) (hi : i.wf) : rparF (textL i) = (i, true) := by
  have g := enc_good h
  have hw : W32 i.imm := hi
  have hop := g.fits.op
  simp only [isOp, Bool.and_eq_true, decide_eq_true_eq] at hop
  have hK : (i.op - 1).toNat < 69 := by omega
  have pf := parts_flat g hi
  have et : textL i = nameK (i.op - 1).toNat i.aq i.rl ++ (psL i (sortF i.op)).flatten := by
    unfold textL; rw [pf]; rfl
  have hc := name_c hK i.aq i.rl
  simp only [nameC, Bool.and_eq_true, beq_iff_eq] at hc
  obtain ⟨c1, c2, c3⟩ := hc
  have hq := ps_head i (sortF i.op)
  have e1 : spN (textL i) = nameK (i.op - 1).toNat i.aq i.rl := by unfold spN; rw [et]; exact sp_name c1 hq
  have e2 : nm1 (textL i) = (names.getD (i.op - 1).toNat [] ++ (bif i.aq then [46, 97, 113] else []), i.rl) := by unfold nm1; rw [e1, c2]
  have e3 : nm2 (textL i) = (names.getD (i.op - 1).toNat [], i.aq) := by unfold nm2; rw [e2]; exact c3
  have hnum : numsA (bs (textL i)) (Int.ofNat (spN (textL i)).length) = nsL i (sortF i.op) := by
    unfold numsA
    show (numO ((textL i).length - (spN (textL i)).length + 1) ((textL i).drop (spN (textL i)).length) []).getD [] = _
    have ed : (textL i).drop (spN (textL i)).length = (psL i (sortF i.op)).flatten := by rw [e1, et, List.drop_left' rfl]
    have el : (textL i).length = (spN (textL i)).length + (psL i (sortF i.op)).flatten.length := by rw [e1]; conv => lhs; rw [et]
                                                                                                    rw [List.length_append]
    rw [ed, toks g hw (fun h8 => by
      have := fence_lt g h8
      have := hw.1
      rw [Int.fdiv_eq_ediv_of_nonneg _ (by decide), IntKind.wrap_i64]; omega) _ (by omega)]
    rfl
  have hI : hitI (textL i) (spN (textL i)).length i.rl i.aq (i.op - 1).toNat = i := by
    unfold hitI
    rw [hnum, show Int.ofNat ((i.op - 1).toNat + 1) = i.op by simp only [Int.ofNat_eq_natCast]; omega]
    exact back g hw
  unfold rparF
  rw [e2, e3, rows_at _ _ _ _ hK 69 0 (by omega) (by omega)]
  unfold hitF
  rw [hI, h]
  rw [show ((textS i).toList == (bs (textL i)).toList) = true from beq_self_eq_true _]
  rfl
end Go.Proofs.YtgkicojmgokinaaGreatDoor.Ab
