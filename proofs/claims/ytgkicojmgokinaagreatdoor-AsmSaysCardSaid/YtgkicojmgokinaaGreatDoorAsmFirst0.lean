/- Trimmed: AsmFirst0, AsmOneOk, Ab22, AsmRun0, AsmRefDec -/
import Derived.Test.YtgkicojmgokinaaGreatDoorAsmParsed
import Derived.Test.YtgkicojmgokinaaGreatDoorAsmDecode
import Derived.Test.YtgkicojmgokinaaGreatDoorAsmTrip
import Derived.Test.YtgkicojmgokinaaGreatDoorAb21
import Derived.Test.YtgkicojmgokinaaGreatDoorAsmRefWord
namespace Go.Proofs.YtgkicojmgokinaaGreatDoor.Ab
open Go Go.RowKit
set_option linter.unusedVariables false
set_option linter.unusedSimpArgs false
set_option maxRecDepth 100000
noncomputable def parB (s : ByteArray) : Bool := (parseP s).isSome
noncomputable def parI (s : ByteArray) : Inst := match parseP s with
  | some i => i
  | none => noInst
theorem par1 {s : ByteArray} (h : (ln s && parB s) = true) (lo : Nat) (H : Heap) : CallOK Tryz.prog lo 12 [.string s] H (.tuple #[instV (parI s), .nilIface]) H := by
  rw [Bool.and_eq_true] at h
  have := (parseOK h.1).call (gh_plains rfl) lo H
  unfold parB at h
  unfold parI
  cases hp : parseP s with
  | none => rw [hp] at h; exact absurd h.2 (by decide)
  | some i => rw [hp] at this; exact this
theorem par2 {s : ByteArray} (h : (ln s && !parB s) = true) (lo : Nat) (H : Heap) : CallOK Tryz.prog lo 12 [.string s] H (.tuple #[instV noInst, errV 0]) H := by
  rw [Bool.and_eq_true] at h
  have := (parseOK h.1).call (gh_plains rfl) lo H
  unfold parB at h
  cases hp : parseP s with
  | none => rw [hp] at this; exact this
  | some i => rw [hp] at h; exact absurd h.2 (by simp)
noncomputable def firstΦ (Qo : ByteArray → Bool) (Qi : ByteArray → Inst) (E : Inst → Nat) (W : Inst → Int) (Pt : Inst → ByteArray) : Oracle := fun lo f args H => match f with
  | 46 => match args with
    | [.int .u32 w] => some [(true, Isa.decV w, H)]
    | _ => none
  | 12 => match args with
    | [.string s] => some [(ln s && Qo s, .tuple #[instV (Qi s), .nilIface], H), (ln s && !Qo s, .tuple #[instV noInst, errV 0], H)]
    | _ => none
  | 25 => match args with
    | [.agg ⟨[.int .i64 op, .int .i64 rd, .int .i64 rs1, .int .i64 rs2, .int .i64 csr, .int .u32 imm, .bool aq, .bool rl]⟩] => some [(Nat.beq (E ⟨op, rd, rs1, rs2, csr, imm, aq, rl⟩) 0, encOk (W ⟨op, rd, rs1, rs2, csr, imm, aq, rl⟩), H), (Nat.beq (E ⟨op, rd, rs1, rs2, csr, imm, aq, rl⟩) 1, encErr 1, H), (Nat.beq (E ⟨op, rd, rs1, rs2, csr, imm, aq, rl⟩) 2, encErr 2, H), (Nat.beq (E ⟨op, rd, rs1, rs2, csr, imm, aq, rl⟩) 3, encErr 3, H)]
    | _ => none
  | 9 => match args with
    | [.agg ⟨[.int .i64 op, .int .i64 rd, .int .i64 rs1, .int .i64 rs2, .int .i64 csr, .int .u32 imm, .bool aq, .bool rl]⟩] => some [(Nat.beq (E ⟨op, rd, rs1, rs2, csr, imm, aq, rl⟩) 0, .tuple #[.string (Pt ⟨op, rd, rs1, rs2, csr, imm, aq, rl⟩), .nilIface], H), (Nat.beq (E ⟨op, rd, rs1, rs2, csr, imm, aq, rl⟩) 1, .tuple #[sv [], errV 1], H), (Nat.beq (E ⟨op, rd, rs1, rs2, csr, imm, aq, rl⟩) 2, .tuple #[sv [], errV 2], H), (Nat.beq (E ⟨op, rd, rs1, rs2, csr, imm, aq, rl⟩) 3, .tuple #[sv [], errV 3], H)]
    | _ => none
  | _ => none
theorem firstΦ_ok : CtxOK Tryz.prog (ctx (firstΦ parB parI encE encW textS)) := ctxOK fun lo f args H l v H' h hm => by
  unfold firstΦ at h
  split at h
  · split at h
    · cases h
      simp only [List.mem_cons, List.not_mem_nil, or_false, Prod.mk.injEq] at hm
      obtain ⟨hc, rfl, rfl⟩ := hm
      exact ⟨(Isa.decodeOK _).call (gh_plains rfl) lo H', rfl⟩
    · cases h
  · split at h
    · cases h
      simp only [List.mem_cons, List.not_mem_nil, or_false, Prod.mk.injEq] at hm
      rcases hm with ⟨hc, rfl, rfl⟩ | ⟨hc, rfl, rfl⟩
      · exact ⟨par1 hc.symm lo H', rfl⟩
      · exact ⟨par2 hc.symm lo H', rfl⟩
    · cases h
  · split at h
    · cases h
      simp only [List.mem_cons, List.not_mem_nil, or_false, Prod.mk.injEq] at hm
      rcases hm with ⟨hc, rfl, rfl⟩ | ⟨hc, rfl, rfl⟩ | ⟨hc, rfl, rfl⟩ | ⟨hc, rfl, rfl⟩
      · exact ⟨(encOk0 hc.symm).call (gh_plains rfl) lo H', rfl⟩
      · exact ⟨(encg hc.symm (by decide)).call (gh_plains rfl) lo H', rfl⟩
      · exact ⟨(encg hc.symm (by decide)).call (gh_plains rfl) lo H', rfl⟩
      · exact ⟨(encg hc.symm (by decide)).call (gh_plains rfl) lo H', rfl⟩
    · cases h
  · split at h
    · cases h
      simp only [List.mem_cons, List.not_mem_nil, or_false, Prod.mk.injEq] at hm
      rcases hm with ⟨hc, rfl, rfl⟩ | ⟨hc, rfl, rfl⟩ | ⟨hc, rfl, rfl⟩ | ⟨hc, rfl, rfl⟩
      · exact ⟨print0 hc.symm lo H', rfl⟩
      · exact ⟨printg hc.symm (by decide) lo H', rfl⟩
      · exact ⟨printg hc.symm (by decide) lo H', rfl⟩
      · exact ⟨printg hc.symm (by decide) lo H', rfl⟩
    · cases h
  · cases h
theorem first_run : callK (ctx (firstΦ parB parI encE encW textS)) 80 0 8 [] [] (fun v _ => some v) = some (.bool true) := by kernel_rfl
theorem firstOK : PureOK Tryz.prog 8 [] (.bool true) := PureOK.of_run firstΦ_ok first_run (Gh.plain rfl)
end Go.Proofs.YtgkicojmgokinaaGreatDoor.Ab

namespace Go.Proofs.YtgkicojmgokinaaGreatDoor.Ab
open Go Go.RowKit
set_option linter.unusedVariables false
set_option linter.unusedSimpArgs false
set_option maxRecDepth 100000
def sameI (a b : Inst) : Bool := a.op == b.op && (a.rd == b.rd && (a.rs1 == b.rs1 && (a.rs2 == b.rs2 && (a.csr == b.csr && (a.imm == b.imm && (a.aq == b.aq && a.rl == b.rl))))))
def tb (x y : Bool) (k : Option Value) : Option Value := bif x then (bif y then k else some (.bool false)) else (bif y then some (.bool false) else k)
theorem same_run (a b : Inst) : callK (ctx noΦ) 20 0 15 [instV a, instV b] [] (fun v _ => some v) =
    bif a.op == b.op then (bif a.rd == b.rd then (bif a.rs1 == b.rs1 then (bif a.rs2 == b.rs2 then (bif a.csr == b.csr then (bif a.imm == b.imm then (tb a.aq b.aq (tb a.rl b.rl (some (.bool true)))) else some (.bool false)) else some (.bool false)) else some (.bool false)) else some (.bool false)) else some (.bool false)) else some (.bool false) := by kernel_rfl
theorem sameOK (a b : Inst) : PureOK Tryz.prog 15 [instV a, instV b] (.bool (sameI a b)) := by
  refine PureOK.of_run noOK ((same_run a b).trans ?_) (Gh.plain rfl)
  unfold sameI tb
  cases (a.op == b.op) <;> cases (a.rd == b.rd) <;> cases (a.rs1 == b.rs1) <;> cases (a.rs2 == b.rs2) <;> cases (a.csr == b.csr) <;> cases (a.imm == b.imm) <;> first | rfl | (cases a.aq <;> cases b.aq <;> cases a.rl <;> cases b.rl <;> rfl)
theorem sameI_refl (a : Inst) : sameI a a = true := by simp [sameI]
def hi1 (T : ByteArray) (x : Int) : ByteArray := T.extract x.toNat T.size
end Go.Proofs.YtgkicojmgokinaaGreatDoor.Ab
namespace Go.Proofs.YtgkicojmgokinaaGreatDoor.Ab
open Go Go.RowKit
set_option linter.unusedVariables false
set_option linter.unusedSimpArgs false
set_option maxRecDepth 100000
def Inst.wf (i : Inst) : Prop := 0 ≤ i.imm ∧ i.imm < 4294967296
theorem tl_eq {a b : ByteArray} (h : (a.toList == b.toList) = true) : a = b := by
  rw [beq_iff_eq, Lib.toList_data, Lib.toList_data] at h
  obtain ⟨⟨a⟩⟩ := a
  obtain ⟨⟨b⟩⟩ := b
  have h : a = b := h
  rw [h]
end Go.Proofs.YtgkicojmgokinaaGreatDoor.Ab

namespace Go.Proofs.YtgkicojmgokinaaGreatDoor.Ab
open Go Go.RowKit
set_option linter.unusedVariables false
set_option linter.unusedSimpArgs false
inductive OT where
  | done : OT
  | seq (i : Nat) (t : OT) : OT
  | two (i j : Nat) (t u : OT) : OT
  /-- Quiet ones first. -/
  | pre (r : List Nat) (t : OT) : OT
def OT.depth : OT → Nat
  | .done => 0
  | .seq _ t => t.depth + 1
  | .two _ _ t _ => t.depth + 1
  | .pre r t => r.length + t.depth
def preS (r : List Nat) (s : Array Bool) : Array Bool := match r with
  | [] => s
  | i :: r => preS r (s.setIfInBounds i true)
def preB2 (md : Region.Mode) (ops : Array Oper) : List Nat → Array Bool → Bool
  | [], s => true
  | i :: r, s => (Region.ready md ops s).contains i && (Region.free md ops s i && preB2 md ops r (s.setIfInBounds i true))
def ordB (md : Region.Mode) (ops : Array Oper) : OT → Array Bool → Bool
  | .done, s => decide (Region.ready md ops s = [])
  | .seq i t, s => decide (Region.ready md ops s = [i]) && ordB md ops t (s.setIfInBounds i true)
  | .two i j t u, s => decide (Region.ready md ops s = [i, j]) && (Nat.beq t.depth u.depth && (ordB md ops t (s.setIfInBounds i true) && ordB md ops u (s.setIfInBounds j true)))
  | .pre r t, s => preB2 md ops r s && ordB md ops t (preS r s)
abbrev Seen := List (Option Value) × Heap
def both : Option (List Seen) → Option (List Seen) → Option (List Seen)
  | some x, some y => some (x ++ y)
  | _, _ => none
def ordK (C : Ctx) (call : Call (List Seen)) (lo n : Nat) (ops : List Oper) : OT → Fr → Heap → (Fr → Heap → Option (List Seen)) → Option (List Seen)
  | .done, F, H, K => K F H
  | .seq i t, F, H, K => tailK C call lo n ops [i] F H (fun F H => ordK C call lo n ops t F H K)
  | .two i j t u, F, H, K => both (tailK C call lo n ops [i] F H (fun F H => ordK C call lo n ops t F H K)) (tailK C call lo n ops [j] F H (fun F H => ordK C call lo n ops u F H K))
  | .pre r t, F, H, K => bif (H.drop lo).all Option.isSome then headK C n ops (maskH lo H) r F (fun F' => ordK C call lo n ops t F' H K) else none
def leafO (ts : List Nat) (F : Fr) (H : Heap) : Option (List Seen) := some [(ts.map F.get, H)]
section
variable {P : Program} {C : Ctx} (hC : CtxOK P C) {α : Type} {call : Call α} (hcall : CallsOK P call)
include hC hcall
theorem opK_sound {lo n i : Nat} {ops : Array Oper} {r : α} {F : Fr} {H : Heap} {K : Fr → Heap → Option α} (h : tailK C call lo n ops.toList [i] F H K = some r) :
    ∃ F' H', K F' H' = some r ∧ ∀ (M : Mp) (a : Act) (w : World), Rel lo M H w → FR M F a.tmps → a.tmps.size = n → a.defers = [] → ∀ (Q : Exit → Act → World → Prop) (next : Act → World → Prop),
      (∀ M' a' w', Ext lo M w M' → Rel lo M' H' w' → Keep lo M w w' → FR M' F' a'.tmps → a'.tmps.size = n → a'.defers = [] → next a' w') → wpOp P ops Q i next a w := by
  unfold tailK at h
  split at h
  · rename_i o ho
    have ho' : ops[i]? = some o := by simpa using ho
    split at h
    · rename_i b hb
      cases b with
      | true =>
        rw [cond_true] at h
        obtain ⟨v, H1, h1, h2⟩ := stepK_sound hC hcall h
        split at h1
        · rename_i F1 hF1
          unfold tailK at h1
          refine ⟨F1, H1, h1, fun M a w hR hF hs hd Q next hk => ?_⟩
          have hw := wantA_sound (ops := ops) hF hb
          unfold wpOp
          simp only [ho', hw, if_true]
          left
          refine h2 M a w hR hF o rfl _ Q fun M1 rv w1 hv hx hR1 hK1 => ?_
          obtain ⟨p1, p2, p3⟩ := putA_sound (hF.le hx.le) hs hF1 hv
          exact hk M1 _ w1 hx hR1 hK1 p1 p2 (by rw [p3]; exact hd)
        · cases h1
      | false =>
        rw [cond_false] at h
        split at h
        · rename_i F1 hF1
          unfold tailK at h
          refine ⟨F1, H, h, fun M a w hR hF hs hd Q next hk => ?_⟩
          have hw := wantA_sound (ops := ops) hF hb
          unfold wpOp
          simp only [ho', hw, Bool.false_eq_true, if_false]
          obtain ⟨p1, p2, p3⟩ := putA_sound (u := undef) hF hs hF1 (plain_VR rfl)
          exact hk M _ w (Ext.refl _ _ _) hR (Keep.refl _ _ _) p1 p2 (by rw [p3]; exact hd)
        · cases h
    · cases h
  · cases h
end
theorem wpAnyC_mono {P : Program} {md : Region.Mode} {ops : Array Oper} {C D : World → Prop} (hCD : ∀ w, C w → D w) {Q : Exit → Act → World → Prop} : ∀ (f : Nat) (s : Array Bool) (a : Act) (w : World), wpAnyC P md ops C Q f s a w → wpAnyC P md ops D Q f s a w
  | 0, s, a, w, h => ⟨hCD w h.1, h.2⟩
  | f + 1, s, a, w, h => ⟨hCD w h.1, h.2.1, fun i hi => wpOp_mono (fun a' w' h' => wpAnyC_mono hCD f _ a' w' h') (h.2.2 i hi)⟩
theorem wpHeadC_sub {P : Program} {ops : Array Oper} {C D : World → Prop} (hDC : ∀ w, D w → C w) {K : Act → Prop} : ∀ (l : List Nat) (a : Act), wpHeadC P ops C K l a → wpHeadC P ops D K l a
  | [], a, h => h
  | i :: l, a, h => by
    obtain ⟨o, v, h1, h2, h3⟩ := h
    exact ⟨o, v, h1, h2.imp (fun h => ⟨h.1, fun w hw => h.2 w (hDC w hw)⟩) id, wpHeadC_sub hDC l _ h3⟩
theorem wpAnyC_pre2 {P : Program} {ops : Array Oper} {Cl : World → Prop} {d : Nat} {Q : Exit → Act → World → Prop} {w : World} (hsel : Region.noSelect ops = true) (hQ : ∀ (o : Oper) v c a w, Q (.panic c) (a.put o.dst v) w → Q (.panic c) a w) :
    ∀ (r : List Nat) (s : Array Bool) (a : Act), preB2 .any ops r s = true → wpHeadC P ops Cl (fun a' => wpAnyC P .any ops Cl Q d (preS r s) a' w) r a → wpAnyC P .any ops Cl Q (r.length + d) s a w
  | [], s, a, hB, hh => by rw [List.length_nil, Nat.zero_add]; exact hh
  | i :: r, s, a, hB, hh => by
    obtain ⟨o, v, h0, hy, hk⟩ := hh
    simp only [preB2, Bool.and_eq_true] at hB
    have hr : i ∈ Region.ready .any ops s := by simpa using hB.1
    rw [List.length_cons, Nat.add_right_comm]
    exact wpAnyC_first h0 (Region.noSelect_spec hsel) (hQ o v) _ s a w (Region.free_spec h0 hB.2.1) hr hy (wpAnyC_pre2 hsel hQ r _ _ hB.2.2 hk)
section
variable {P : Program} {C : Ctx} (hC : CtxOK P C) {call : Call (List Seen)} (hcall : CallsOK P call)
include hC hcall
theorem ordK_sound {lo n : Nat} {ops : Array Oper} {ts : List Nat} (hsel : Region.noSelect ops = true) : ∀ (T : OT) (F : Fr) (H : Heap) (rs : List Seen), ordK C call lo n ops.toList T F H (leafO ts) = some rs → ∀ (s : Array Bool), ordB .any ops T s = true →
    ∀ (M : Mp) (a : Act) (w : World), Rel lo M H w → FR M F a.tmps → a.tmps.size = n → a.defers = [] → ∀ (Cl : World → Prop), (∀ w', Keep lo M w w' → Cl w') → ∀ (Q : Exit → Act → World → Prop), (∀ (o : Oper) v c a w, Q (.panic c) (a.put o.dst v) w → Q (.panic c) a w) →
      (∀ x ∈ rs, ∀ M' a' w' F', ts.map F'.get = x.1 → Ext lo M w M' → Rel lo M' x.2 w' → Keep lo M w w' → FR M' F' a'.tmps → a'.tmps.size = n → a'.defers = [] → Q .normal a' w') →
      wpAnyC P .any ops Cl Q T.depth s a w
  | .done, F, H, rs, h, s, hB, M, a, w, hR, hF, hs, hd, Cl, hCl, Q, hQ, hk => by
    simp only [ordB, decide_eq_true_eq] at hB
    unfold ordK leafO at h
    cases h
    exact ⟨hCl w (Keep.refl _ _ _), hB, hk _ (List.mem_cons_self ..) M a w F rfl (Ext.refl _ _ _) hR (Keep.refl _ _ _) hF hs hd⟩
  | .seq i t, F, H, rs, h, s, hB, M, a, w, hR, hF, hs, hd, Cl, hCl, Q, hQ, hk => by
    simp only [ordB, Bool.and_eq_true, decide_eq_true_eq] at hB
    unfold ordK at h
    obtain ⟨F1, H1, h1, h2⟩ := opK_sound hC hcall h
    refine ⟨hCl w (Keep.refl _ _ _), fun h0 => (by rw [hB.1] at h0; cases h0), fun j hj => ?_⟩
    rw [hB.1] at hj
    have hji : j = i := by simpa using hj
    subst hji
    refine h2 M a w hR hF hs hd Q _ fun M1 a1 w1 hx1 hR1 hK1 hF1 hs1 hd1 => ?_
    exact ordK_sound hsel t F1 H1 rs h1 _ hB.2 M1 a1 w1 hR1 hF1 hs1 hd1 Cl (fun w' hk' => hCl w' (hK1.trans hx1 hk')) Q hQ fun x hx M2 a2 w2 F2 e hx2 hR2 hK2 => hk x hx M2 a2 w2 F2 e (hx1.trans hK1.size hx2) hR2 (hK1.trans hx1 hK2)
  | .two i j t u, F, H, rs, h, s, hB, M, a, w, hR, hF, hs, hd, Cl, hCl, Q, hQ, hk => by
    simp only [ordB, Bool.and_eq_true, decide_eq_true_eq] at hB
    obtain ⟨hr, hdep, hB1, hB2⟩ := hB
    have hdep := Nat.eq_of_beq_eq_true hdep
    unfold ordK both at h
    split at h
    · rename_i x y hx0 hy0
      cases h
      obtain ⟨F1, H1, h1, h2⟩ := opK_sound hC hcall hx0
      obtain ⟨G1, I1, k1, k2⟩ := opK_sound hC hcall hy0
      refine ⟨hCl w (Keep.refl _ _ _), fun h0 => (by rw [hr] at h0; cases h0), fun q hq => ?_⟩
      rw [hr] at hq
      have hqi : q = i ∨ q = j := by simpa using hq
      rcases hqi with rfl | rfl
      · refine h2 M a w hR hF hs hd Q _ fun M1 a1 w1 hx1 hR1 hK1 hF1 hs1 hd1 => ?_
        exact ordK_sound hsel t F1 H1 x h1 _ hB1 M1 a1 w1 hR1 hF1 hs1 hd1 Cl (fun w' hk' => hCl w' (hK1.trans hx1 hk')) Q hQ fun z hz M2 a2 w2 F2 e hx2 hR2 hK2 => hk z (List.mem_append_left _ hz) M2 a2 w2 F2 e (hx1.trans hK1.size hx2) hR2 (hK1.trans hx1 hK2)
      · refine k2 M a w hR hF hs hd Q _ fun M1 a1 w1 hx1 hR1 hK1 hF1 hs1 hd1 => ?_
        have := ordK_sound hsel u G1 I1 y k1 _ hB2 M1 a1 w1 hR1 hF1 hs1 hd1 Cl (fun w' hk' => hCl w' (hK1.trans hx1 hk')) Q hQ fun z hz M2 a2 w2 F2 e hx2 hR2 hK2 => hk z (List.mem_append_right _ hz) M2 a2 w2 F2 e (hx1.trans hK1.size hx2) hR2 (hK1.trans hx1 hK2)
        rw [← hdep] at this
        exact this
    · cases h
  | .pre r t, F, H, rs, h, s, hB, M, a, w, hR, hF, hs, hd, Cl, hCl, Q, hQ, hk => by
    simp only [ordB, Bool.and_eq_true] at hB
    unfold ordK at h
    cases hall : (H.drop lo).all Option.isSome with
    | false => rw [hall] at h; cases h
    | true =>
      rw [hall, cond_true] at h
      obtain ⟨F1, h1, h2⟩ := headK_sound (P := P) hC (lo := lo) r F _ h
      refine wpAnyC_mono (C := fun w' => Cl w' ∧ Told M (maskH lo H) w w') (fun _ h => h.1) _ _ _ _ ?_
      refine wpAnyC_pre2 hsel hQ r s a hB.1 (wpHeadC_sub (C := fun w' => Told M (maskH lo H) w w') (fun _ h => h.2) _ _ (h2 M a w hR.mask hF hs hd _ fun a' f1 f2 f3 => ?_))
      exact ordK_sound hsel t F1 H rs h1 _ hB.2 M a' w hR f1 f2 f3 _ (fun w' hK => ⟨hCl w' hK, hR.told_mask hall hK⟩) Q hQ hk
end
def ordOK2 (ops : Array Oper) (T : OT) : Bool := Region.noSelect ops && (Nat.beq T.depth ops.size && ordB .any ops T (Array.replicate ops.size false))
theorem GoOK.ordH {P : Program} {C : Ctx} (hC : CtxOK P C) {m id n : Nat} {ops : Array Oper} {T : OT} {ts : List Nat} {rs : List Seen} {F F2 : Fr} {H H2 : Heap} (hB : ordOK2 ops T = true)
    (h : ordK C (callK C m) 0 n ops.toList T F H (leafO ts) = some rs)
    (hre : ∀ x ∈ rs, ∀ M0 w0 M' a' w' F', M0.pl = [] → ts.map F'.get = x.1 → AtG 0 M0 w0 n M' F' x.2 a' w' → ∃ M2, AtG 0 M0 w0 n M2 F2 H2 a' w') : GoOK P 0 0 n [.region id ops true] F H .normal F2 H2 := by
  intro M0 w0 M a w hb ha Q rest hk
  show (Code.region id ops true).wp P _ a w
  refine wp_mono (Q := fun e a w => e = .normal ∧ ∃ M2, AtG 0 M0 w0 n M2 F2 H2 a w) ?_ fun e a' w' he => by
    obtain ⟨rfl, M2, hA⟩ := he
    exact hk M2 a' w' hA
  simp only [ordOK2, Bool.and_eq_true] at hB
  obtain ⟨hsel, hlen, hB⟩ := hB
  refine wp_region_any hC.mix ?_
  have hR1 : Rel 0 M H { w with drawn := w.drawn + 1 } := ha.rel.drew _
  have key : wpAnyC P .any ops (fun _ => True) (fun e a w => e = .normal ∧ ∃ M2, AtG 0 M0 w0 n M2 F2 H2 a w) T.depth (Array.replicate ops.size false) a { w with drawn := w.drawn + 1 } :=
    ordK_sound hC (fun lo f args H K r h => callK_sound hC m lo f args H K r h) hsel T F H rs h _ hB M a _ hR1 ha.fr ha.size ha.defers _ (fun _ _ => trivial) _ (fun o v c a' w' h => by cases h.1) fun x hx M' a' w' F' e hx1 hR' hK hF' hs' hd' => ⟨rfl, by
      refine hre x hx M0 w0 M' a' w' F' (List.eq_nil_of_length_eq_zero hb) e ⟨hR', hF', hs', hd', ha.ext.trans ha.keep.size ⟨hx1.le, hx1.new, hx1.newfz⟩, ha.keep.trans ha.ext ⟨hK.os, hK.tape, hK.output, hK.size, hK.block⟩⟩⟩
  rw [Nat.eq_of_beq_eq_true hlen] at key
  exact wpAny_of_C _ _ _ _ key
theorem AtG.pick {n : Nat} {M0 M : Mp} {w0 w : World} {F1 F2 : Fr} {H1 : Heap} {a : Act} (hA : AtG 0 M0 w0 n M F1 H1 a w) (h0 : M0.pl = []) (j : Nat) {b : Blk} (hj : H1[j]? = some (some b)) (hv : b.view = none) (hg : ∀ x ∈ b.cells, Gh x)
    (hF : ∀ e ∈ F2, (F1.get e.1 = some e.2 ∧ Gh e.2) ∨ (∃ m z, 0 < z ∧ F1.get e.1 = some (.slice (some ⟨j, 0, none⟩) m z) ∧ e.2 = .slice (some ⟨0, 0, none⟩) m z) ∨ ∃ t, F1.get e.1 = some (.iface t (.pointer (some ⟨j, 0, none⟩))) ∧ e.2 = .iface t (.pointer (some ⟨0, 0, none⟩))) : ∃ M2, AtG 0 M0 w0 n M2 F2 [some b] a w := by
  have hl1 := hA.rel.len
  have hjl : j < H1.length := (List.getElem?_eq_some_iff.1 hj).1
  refine ⟨_, hA.retell0 h0 (F' := F2) (H' := [some b]) [j] (fun s hs => by simp at hs; subst hs; rw [hl1]; exact hjl) (fun i i' s b1 b2 h1 h2 _ _ => by
      have a1 := (List.getElem?_eq_some_iff.1 h1).1
      have a2 := (List.getElem?_eq_some_iff.1 h2).1
      simp at a1 a2; omega) (fun _ _ _ _ => by omega) rfl (fun i b' e => ?_) (fun x hx => ?_)⟩
  · cases i with
    | zero =>
      simp at e; subst e
      refine ⟨j, b, rfl, hj, rfl, hv, Nat.le_refl _, fun us hu => ?_⟩
      rw [List.take_of_length_le (by rw [← hu.length]; exact Nat.le_refl _)]
      exact (Gh.vrs hg hu).le (Le.of_nil (M := selM M [j]) fun _ _ _ h => h)
    | succ i => simp at e
  · rcases hF x hx with ⟨h1, h2⟩ | ⟨m, z, hz, h2, h3⟩ | ⟨t, h2, h3⟩
    · exact ⟨x.2, h1, fun u hu => tr_gh h2 hu⟩
    · refine ⟨_, h2, fun u hu => ?_⟩
      rw [h3]
      exact tr_slice rfl (by rw [hl1]; exact hjl) hz hu
    · refine ⟨_, h2, fun u hu => ?_⟩
      rw [h3]
      cases hu with
      | iface hu => exact .iface (tr_ptr rfl (by rw [hl1]; exact hjl) hu)
end Go.Proofs.YtgkicojmgokinaaGreatDoor.Ab

namespace Go.Proofs.YtgkicojmgokinaaGreatDoor.Ab
open Go Go.RowKit
set_option linter.unusedVariables false
set_option linter.unusedSimpArgs false
set_option maxRecDepth 100000
abbrev Res := Option (Exit × List (Option Value) × Heap)
def nilV : Value := .slice none 0 0
def ptr (i : Nat) : Value := .pointer (some ⟨i, 0, none⟩)
def sl (i n z : Nat) : Value := .slice (some ⟨i, 0, none⟩) n z
def sliV (k n z : Nat) : Value := match n with
  | 0 => nilV
  | n + 1 => sl k (n + 1) z
def seeA (ts : List Nat) (e : Exit) (F : Fr) (H : Heap) : Res := some (e, ts.map F.get, H)
theorem RowOK.of_seeA {P : Program} {C : Ctx} (hC : CtxOK P C) {m j lo n f : Nat} {p : Nat → Bool} {l : List Code} {F F2 : Fr} {H H2 : Heap} {e : Exit} {ts : List Nat} (hts : F2.map (·.1) = ts) (hd : l.all (drawsOK (C.dr f)) = true)
    (h : runL (C.at_ f) (callK C m) j lo n f p l F H (seeA ts) = some (e, F2.map (fun e => some e.2), H2)) : RowOK P lo n l F H e F2 H2 := by
  subst hts
  obtain ⟨e1, F1, H1, h1, h2⟩ := runL_sound (hC.at_ f) (call := callK C m) (fun lo f args H K r h => callK_sound hC m lo f args H K r h) l hd F H _ h
  simp only [seeA, Option.some.injEq, Prod.mk.injEq] at h1
  obtain ⟨rfl, h3, rfl⟩ := h1
  exact h2.slots (see_slots h3)
def w64 (x : Int) : Int := IntKind.i64.wrap x
theorem w64_of {x : Int} (h0 : 0 ≤ x) (h1 : x < 9223372036854775808) : w64 x = x := by
  simp only [w64, IntKind.wrap, IntKind.bits, IntKind.signed]
  simp
  omega
def moreG (cells n z b : Nat) : Bool := Nat.beq cells (n * z) && (Nat.ble ((n + 1) * b) 140737488355328 && Nat.ble (n + 1) 9223372036854775807)
theorem moreG_eq {n z b m : Nat} (h : m = n * z) (hb : (n + 1) * b ≤ 140737488355328) (hn : n ≤ 1048577) : moreG m n z b = true := by
  subst h
  simp only [moreG, Bool.and_eq_true]
  exact ⟨by simp, Nat.ble_eq_true_of_le hb, Nat.ble_eq_true_of_le (by omega)⟩
theorem gh_int (k : IntKind) (n : Int) : Gh (.int k n) := Gh.plain rfl
theorem gh_str (s : ByteArray) : Gh (.string s) := Gh.plain rfl
def seeV (ts : List Nat) (e : Exit) (F : Fr) (H : Heap) : Res := some (e, ts.map F.get, [])
theorem GoOK.of_seeV {P : Program} {C : Ctx} (hC : CtxOK P C) {m j n f : Nat} {p : Nat → Bool} {l : List Code} {F F2 : Fr} {H : Heap} {e : Exit} {ts : List Nat} (hts : F2.map (·.1) = ts) (hd : l.all (drawsOK (C.dr f)) = true)
    (h : runL (C.at_ f) (callK C m) j 0 n f p l F H (seeV ts) = some (e, F2.map (fun e => some e.2), [])) (hg : ∀ x ∈ F2, Gh x.2) : GoOK P 0 0 n l F H e F2 [] := by
  subst hts
  obtain ⟨e1, F1, H1, h1, h2⟩ := runL_sound (hC.at_ f) (call := callK C m) (fun lo f args H K r h => callK_sound hC m lo f args H K r h) l hd F H _ h
  simp only [seeV, Option.some.injEq, Prod.mk.injEq, and_true] at h1
  obtain ⟨rfl, h3⟩ := h1
  have hs := see_slots h3
  exact GoOK.freeze (RowOK.go h2) fun x hx => ⟨x.2, hs x hx, .inl ⟨rfl, hg x hx⟩⟩
end Go.Proofs.YtgkicojmgokinaaGreatDoor.Ab

namespace Go.Proofs.YtgkicojmgokinaaGreatDoor.Ab
open Go Go.RowKit
set_option linter.unusedVariables false
set_option linter.unusedSimpArgs false
set_option maxRecDepth 100000
end Go.Proofs.YtgkicojmgokinaaGreatDoor.Ab
