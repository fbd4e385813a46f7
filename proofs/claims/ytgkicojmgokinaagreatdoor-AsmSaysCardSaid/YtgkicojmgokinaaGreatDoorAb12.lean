/- Trimmed: Ab12 -/
import Derived.Test.YtgkicojmgokinaaGreatDoorAb11
import Derived.LaidEql
import Derived.Laws.IdiomStrings
namespace Go.Proofs.YtgkicojmgokinaaGreatDoor.Ab
open Go Go.RowKit
set_option linter.unusedVariables false
set_option linter.unusedSimpArgs false
theorem Rel.raise {lo lo' : Nat} {M : Mp} {H : Heap} {w : World} (h : Rel lo M H w) (hl : lo ≤ lo') : Rel lo' M H w :=
  ⟨h.len, h.dom, fun i b e => let ⟨r, s, cs, t, fz, h1, h2, h3, h4⟩ := h.blk i b e; ⟨r, s, cs, t, fz, h1, h2, fun hi => h3 (Nat.le_trans hl hi), h4⟩, fun i p hi e => h.own i p (Nat.le_trans hl hi) e, fun i j b b' p q a1 a2 a3 a4 a5 a6 => h.inj i j b b' p q a1 a2 a3 a4 a5 (a6.imp (Nat.le_trans hl) (Nat.le_trans hl)), fun r o ys e => let ⟨f1, f2⟩ := h.froz r o ys e; ⟨f1, fun i p hi => f2 i p (Nat.le_trans hl hi)⟩, h.gl⟩
theorem putA_sound {M : Mp} {F F' : Fr} {a : Act} {n : Nat} {dst : Option Tmp} {v u : Value} (h : FR M F a.tmps) (hs : a.tmps.size = n) (hp : putA n F dst v = some F') (hv : VR M v u) :
    FR M F' (a.put dst u).tmps ∧ (a.put dst u).tmps.size = n ∧ (a.put dst u).defers = a.defers := by
  unfold putA at hp
  cases dst with
  | none => cases hp; exact ⟨h, hs, rfl⟩
  | some d =>
    simp only at hp
    cases hb : Nat.blt d n with
    | false => rw [hb] at hp; cases hp
    | true =>
      rw [hb] at hp
      cases hp
      have hd : d < n := by simpa [Nat.blt_eq] using hb
      exact ⟨h.put (by rw [hs]; exact hd) hv, by simp [Act.put, hs], rfl⟩
theorem wantA_sound {M : Mp} {F : Fr} {a : Act} {ops : Array Oper} {o : Oper} {b : Bool} (hF : FR M F a.tmps) (h : wantA ops.toList F o.guard = some b) : Region.wanted o (yielded ops a.tmps) = b := by
  unfold wantA at h
  unfold Region.wanted
  split at h
  · rename_i hg; rw [hg]; cases h; rfl
  · rename_i j want hg
    rw [hg]
    simp only
    split at h
    · rename_i o' ho
      have ho' : ops[j]? = some o' := by simpa using ho
      split at h
      · rename_i d hd
        split at h
        · rename_i c hc
          cases h
          obtain ⟨u, h1, h2⟩ := hF d _ hc
          cases h2
          simp [yielded, ho', hd, h1]
        · rename_i xs hc
          cases h
          obtain ⟨u, h1, h2⟩ := hF d _ hc
          cases h2
          simp [yielded, ho', hd, h1]
        · cases h
      · cases h
    · cases h
theorem splitB_sound {α : Type} {v : Value} {K : Value → Option α} {r : α} (h : splitB v K = some r) : K v = some r := by
  unfold splitB at h
  split at h
  · rename_i b; cases b <;> exact h
  · exact h
theorem splitI_sound {α : Type} {K : Value → Option α} {r : α} : ∀ {l : List Int} {v : Value}, splitI l v K = some r → K v = some r
  | [], _, h => by cases h
  | c :: l, v, h => by
    unfold splitI at h
    split at h
    · rename_i k x
      cases hc : (x == c) with
      | true => rw [hc] at h; have : x = c := by simpa using hc
                subst this; exact h
      | false => rw [hc] at h; exact splitI_sound h
    · cases h
theorem splitR_sound {α : Type} {T : Tab} {op : Op} {v : Value} {K : Value → Option α} {r : α} (h : splitR T op v K = some r) : K v = some r := by
  unfold splitR at h
  split at h
  · exact splitI_sound h
  · cases ht : twoWays T op with
    | true => rw [ht] at h; exact splitB_sound h
    | false => rw [ht] at h; exact h
theorem viewOf_sound {b : Nat} : ∀ (k : Nat) (H : Heap) (v o : Nat), viewOf b k H = some (v, o) → ∃ x, k ≤ v ∧ H[v - k]? = some (some x) ∧ x.view = some (b, o)
  | _, [], _, _, h => by cases h
  | k, none :: r, v, o, h => by
    obtain ⟨x, h1, h2, h3⟩ := viewOf_sound (k + 1) r v o h
    exact ⟨x, by omega, by rw [show v - k = (v - (k + 1)) + 1 by omega, List.getElem?_cons_succ]; exact h2, h3⟩
  | k, some ⟨c, e, none⟩ :: r, v, o, h => by
    obtain ⟨x, h1, h2, h3⟩ := viewOf_sound (k + 1) r v o h
    exact ⟨x, by omega, by rw [show v - k = (v - (k + 1)) + 1 by omega, List.getElem?_cons_succ]; exact h2, h3⟩
  | k, some ⟨c, e, some (p, o')⟩ :: r, v, o, h => by
    simp only [viewOf] at h
    cases hp : (p == b) with
    | true =>
      rw [hp] at h
      cases h
      have : p = b := by simpa using hp
      subst this
      exact ⟨⟨c, e, some (p, o')⟩, Nat.le_refl _, by simp, rfl⟩
    | false =>
      rw [hp] at h
      obtain ⟨x, h1, h2, h3⟩ := viewOf_sound (k + 1) r v o h
      exact ⟨x, by omega, by rw [show v - k = (v - (k + 1)) + 1 by omega, List.getElem?_cons_succ]; exact h2, h3⟩
theorem placeC_sound {P : Program} {T : Tab} (hT : TabOK P T) {lo : Nat} {M : Mp} {H : Heap} {w : World} (hR : Rel lo M H w) {F : Fr} {a : Act} (hF : FR M F a.tmps) {t : TypeId} {X I : Operand} {kk : IntKind} {k : Int} {x v : Value} (hi : arg F I = some (.int kk k)) (hx : arg F X = some x)
    (h : placeC T H t x k = some (true, v)) : Quiet P w M H a.eval (.indexAddr t X I) v := by
  unfold placeC at h
  split at h
  · rename_i p
    split at h
    · rename_i n e _ _ _ ht
      split at h
      · rename_i i he
        simp only [Option.some.injEq, Prod.mk.injEq, Bool.and_eq_true, decide_eq_true_eq] at h
        obtain ⟨hk, rfl⟩ := h
        exact q_indexAddr hT hF hi hx (by simp only [placeA, ht, he, if_pos hk])
      · cases h
    · cases h
  · rename_i p n z
    split at h
    · rename_i e _ _ _ ht
      split at h
      · rename_i i he
        split at h
        · rename_i u o hu
          simp only [Option.some.injEq, Prod.mk.injEq, Bool.and_eq_true, decide_eq_true_eq] at h
          obtain ⟨⟨hk0, hk1, ho⟩, rfl⟩ := h
          have ho' : o = p.off + k.toNat * i.size := Nat.eq_of_beq_eq_true ho
          obtain ⟨b, _, hb, hbv⟩ := viewOf_sound 0 H u o hu
          rw [Nat.sub_zero] at hb
          obtain ⟨r, s, cs, t0, fz, g1, g2, _, g3, g4, g5⟩ := hR.blk u b hb
          obtain ⟨s', N', g6, g7⟩ := g5 _ _ hbv
          have hq := q_indexAddr (P := P) (w := w) (M := M) (H := H) (F := F) (a := a) (v := .pointer (some ⟨p.block, p.off + k.toNat * i.size, none⟩)) hT hF hi hx (t := t) (by simp only [placeA, ht, he, if_pos (And.intro hk0 hk1)])
          obtain ⟨rv, q1, q2⟩ := hq
          cases q1 with
          | @ptr _ _ r2 s2 N2 hM2 =>
          rw [g6] at hM2
          cases hM2
          refine ⟨.pointer (some ⟨r, s + 0, none⟩), .ptr g1, fun o' ho2 w' hw' => ?_⟩
          rw [q2 o' ho2 w' hw', g7, ho', Nat.add_zero]
        · simp only [Option.some.injEq, Prod.mk.injEq, Bool.and_eq_true, decide_eq_true_eq] at h
          obtain ⟨hk, rfl⟩ := h
          exact q_indexAddr hT hF hi hx (by simp only [placeA, ht, he, if_pos hk])
      · cases h
    · cases h
  · cases h
theorem snt_inv {M : Mp} {s : String} {f : Array Value} {k : IntKind} {g : Nat} {v : Value} (h : VR M (.func (.methodOf 2 s) f ⟨[.int k (.ofNat g)]⟩) v) : ∃ a, M.fz g 0 [.iface sntT (.pointer (some a))] ∧ v = .pointer (some a) := by
  generalize hg : (Value.func (.methodOf 2 s) f ⟨[.int k (.ofNat g)]⟩) = gv at h
  cases h <;> first | (cases hg; done) | skip
  rename_i g' a hf
  injection hg with _ _ e; injection e with e; injection e with e _; injection e with _ e; injection e with e; subst e
  exact ⟨a, hf, rfl⟩
theorem Froz.one {w : World} {r : Nat} {x y : Value} (h : Froz w r 0 [x]) (k : Froz w r 0 [y]) : x = y := by
  obtain ⟨cs, t, f, h1, h2, h3, _⟩ := h
  obtain ⟨cs', t', f', k1, k2, k3, _⟩ := k
  rw [h1] at k1
  injection k1 with k1; injection k1 with k1 _ _
  have k1 : cs = cs' := by injection k1
  subst k1
  simp only [List.length_cons, List.length_nil, List.drop_zero] at h3 k3
  rw [h3] at k3
  injection k3
theorem sntA_sound {P : Program} {T : Tab} (hT : TabOK P T) {lo : Nat} {M : Mp} {H : Heap} {w : World} (hR : Rel lo M H w) {F : Fr} {a : Act} (hF : FR M F a.tmps) {t t' t1 t2 : TypeId} {X Y : Operand} {x y v : Value} (hx : arg F X = some (.iface t1 x)) (hy : arg F Y = some (.iface t2 y))
    (h : sntA T t t1 t2 x y = some v) : Quiet P w M H a.eval (.binOp .eql t X Y t') v := by
  unfold sntA at h
  split at h
  · rename_i s1 f1' k1 g1 s2 f2' k2 g2
    split at h
    · rename_i ht ht1
      split at h
      · rename_i i he
        split at h
        · rename_i hc
          obtain ⟨rfl, rfl, hsz, hg, hg'⟩ := hc
          cases h
          have hx' := arg_sound hF hx
          have hy' := arg_sound hF hy
          generalize hzx : a.eval X = x' at hx'
          generalize hzy : a.eval Y = y' at hy'
          cases hx' with | iface hx' =>
          cases hy' with | iface hy' =>
          obtain ⟨a1, f1, rfl⟩ := snt_inv hx'
          obtain ⟨a2, f2, rfl⟩ := snt_inv hy'
          obtain ⟨d, q1, q2, q3⟩ := hT.und ht w
          obtain ⟨ms, rfl⟩ := und_iface q3
          obtain ⟨inf, i1, i2, i3⟩ := hT.ptr ht1 rfl
          obtain ⟨inf', _, j1, _, _, j2, _⟩ := hT.get he
          obtain ⟨ad, A, B⟩ := hR.gl.1
          have e1 := (hR.froz _ _ _ f1).1.one (hR.froz _ _ _ (A g1 hg).1).1
          have e2 := (hR.froz _ _ _ f2).1.one (hR.froz _ _ _ (A g2 hg').1).1
          injection e1 with _ e1; injection e1 with e1; injection e1 with e1; subst e1
          injection e2 with _ e2; injection e2 with e2; injection e2 with e2; subst e2
          obtain ⟨_, z1, cs1, t1, c1⟩ := A g1 hg
          obtain ⟨_, z2, cs2, t2, c2⟩ := A g2 hg'
          refine ⟨_, .bool _, fun o ho w' hw => ?_⟩
          rw [← hw.fz _ _ _ z1] at c1
          rw [← hw.fz _ _ _ z2] at c2
          have hgd : (eqGuard .eql t X Y (.iface sntT (.pointer (some (ad g1)))) (.iface sntT (.pointer (some (ad g2))))).run P w' = .ok () w' := rfl
          by_cases hgg : g1 = g2
          · subst hgg
            have := run_eql_iface_ptr_same (P := P) w' (ad g1) q2 i2 i1 i3 j1
            have e : Nat.beq g1 g1 = true := Nat.beq_refl g1
            simp [execOp, ho, hzx, hzy, hgd, this, e]
          · have := run_eql_iface_ptr_other (P := P) w' q2 i2 i1 i3 j1 (by rw [j2]; exact hsz) (fun e => hgg (B _ hg _ hg' e)) c1 c2
            have e : Nat.beq g1 g2 = false := by
              cases hb : Nat.beq g1 g2 with
              | false => rfl
              | true => exact (hgg (Nat.eq_of_beq_eq_true hb)).elim
            simp [execOp, ho, hzx, hzy, hgd, this, e]
        · cases h
      · cases h
    · cases h
  · cases h
theorem binC_sound {P : Program} {T : Tab} (hT : TabOK P T) {lo : Nat} {M : Mp} {H : Heap} {w : World} (hR : Rel lo M H w) {F : Fr} {a : Act} (hF : FR M F a.tmps) {op : BinOp} {t t' : TypeId} {X Y : Operand} {x y v : Value} (hx : arg F X = some x) (hy : arg F Y = some y)
    (h : binC T op t (Region.isConst X || Region.isConst Y) x y = some (true, v)) : Quiet P w M H a.eval (.binOp op t X Y t') v := by
  unfold binC at h
  split at h
  · rename_i k a' k' b'
    split at h
    · rename_i hk
      subst hk
      simp only [Option.some.injEq, Prod.mk.injEq, Bool.not_eq_true', beq_eq_false_iff_ne, ne_eq] at h
      obtain ⟨h0, rfl⟩ := h
      exact q_bin hT hF hx hy (by simp only [binA, if_true, intOp, if_neg h0])
    · cases h
  · rename_i k a' k' b'
    split at h
    · rename_i hk
      subst hk
      simp only [Option.some.injEq, Prod.mk.injEq, Bool.not_eq_true', beq_eq_false_iff_ne, ne_eq] at h
      obtain ⟨h0, rfl⟩ := h
      exact q_bin hT hF hx hy (by simp only [binA, if_true, intOp, if_neg h0])
    · cases h
  · simp only [Option.some.injEq, Prod.mk.injEq, decide_eq_true_eq] at h
    obtain ⟨h0, rfl⟩ := h
    exact q_bin hT hF hx hy (by simp only [binA, shiftOp]; rw [if_neg (by omega)])
  · simp only [Option.some.injEq, Prod.mk.injEq, decide_eq_true_eq] at h
    obtain ⟨h0, rfl⟩ := h
    exact q_bin hT hF hx hy (by simp only [binA, shiftOp]; rw [if_neg (by omega)])
  · simp only [Option.some.injEq, Prod.mk.injEq, decide_eq_true_eq] at h
    obtain ⟨h0, rfl⟩ := h
    exact q_bin hT hF hx hy (by simp only [binA, strOp, if_pos h0])
  · split at h
    · rename_i hb; cases h; exact sntA_sound hT hR hF hx hy hb
    · cases h
  · split at h
    · rename_i hb
      cases h
      exact q_bin hT hF hx hy hb
    · cases h
theorem assert_sound {P : Program} {T : Tab} (hT : TabOK P T) {M : Mp} {H : Heap} {w : World} {F : Fr} {a : Act} (hF : FR M F a.tmps) {t t' : TypeId} {X : Operand} {x v : Value} (hx : arg F X = some x) (h : assertA T t x = some v) : Quiet P w M H a.eval (.typeAssert X t' t true) v := by
  unfold assertA at h
  split at h
  · cases h
  · rename_i i hne hi
    have hx' := arg_sound hF hx
    generalize hz : a.eval X = x' at hx'
    have hd : ∀ d, tdOf d = i.d → ∀ ms, d ≠ .interface ms := fun d e ms e' => by
      subst e'
      obtain ⟨d, s, b, z⟩ := i
      simp only [tdOf] at e
      subst e
      exact hne _ _ _ rfl
    have zv : ∀ M : Mp, VR M i.zero i.zero := fun M => by
      obtain ⟨info, d, hi1, hu, hd', hs, hb, hz', hp⟩ := hT.get hi
      exact plain_VR hp
    split at h
    · rename_i t1 v1
      cases hx' with | iface hv =>
      cases hb : Nat.beq t1 t with
      | true =>
        rw [hb] at h; cases h
        have := Nat.eq_of_beq_eq_true hb
        subst this
        refine ⟨_, .tuple (xs := [_, _]) (xs' := [_, _]) (.cons hv (.cons (.bool true) .nil)), fun o ho w' _ => ?_⟩
        obtain ⟨d, q1, q2, q3⟩ := hT.und hi w'
        have := hd d q3
        cases d <;> first | exact absurd rfl (this _) | simp [execOp, ho, hz, Instr.typeAssert, q1]
      | false =>
        rw [hb] at h; cases h
        have hne' : t1 ≠ t := fun e => by rw [e, Nat.beq_refl] at hb; cases hb
        refine ⟨_, .tuple (xs := [_, _]) (xs' := [_, _]) (.cons (zv M) (.cons (.bool false) .nil)), fun o ho w' _ => ?_⟩
        obtain ⟨d, q1, q2, q3⟩ := hT.und hi w'
        have := hd d q3
        have z0 := hT.zeroValue hi w'
        cases d <;> first | exact absurd rfl (this _) | simp [execOp, ho, hz, Instr.typeAssert, q1, hne', z0]
    · cases hx'
      cases h
      refine ⟨_, .tuple (xs := [_, _]) (xs' := [_, _]) (.cons (zv M) (.cons (.bool false) .nil)), fun o ho w' _ => ?_⟩
      obtain ⟨d, q1, q2, q3⟩ := hT.und hi w'
      have := hd d q3
      have z0 := hT.zeroValue hi w'
      cases d <;> first | exact absurd rfl (this _) | simp [execOp, ho, hz, Instr.typeAssert, q1, z0]
    · cases h
  · cases h
theorem bytes_eq {M : Mp} : ∀ {cs ys : List Value}, VRs M cs ys → cs.all isByte = true → ys = (cs.map byteOf).map fun b => Value.int .u8 (b.toNat : Int)
  | _, _, .nil, _ => rfl
  | x :: cs, _, .cons a b, h => by
    simp only [List.all_cons, Bool.and_eq_true] at h
    rw [List.map_cons, List.map_cons, ← bytes_eq b h.2]
    congr 1
    unfold isByte at h
    split at h
    · rename_i k
      cases a
      simp only [Bool.and_eq_true, decide_eq_true_eq] at h
      obtain ⟨⟨h1, h2⟩, _⟩ := h
      show Value.int .u8 k = Value.int .u8 ((UInt8.ofNat k.toNat).toNat : Int)
      congr 1
      rw [UInt8.toNat_ofNat']
      omega
    · simp at h
theorem text_sound {P : Program} {T : Tab} (hT : TabOK P T) {lo : Nat} {M : Mp} {H : Heap} {w : World} (hR : Rel lo M H w) {F : Fr} {a : Act} (hF : FR M F a.tmps) {s d : TypeId} {X : Operand} {x v : Value} (hx : arg F X = some x)
    (h : textA T H s d x = some (true, v)) : Quiet P w M H a.eval (.convert s d X) v := by
  unfold textA at h
  split at h
  · rename_i b o n
    split at h
    · rename_i e _ _ _ _ _ _ cs hs hd hc
      split at h
      · rename_i he
        simp only [Option.some.injEq, Prod.mk.injEq] at h
        obtain ⟨hb, rfl⟩ := h
        have hx' := arg_sound hF hx
        generalize hz : a.eval X = x' at hx'
        cases hx' with
        | slice hM h1 h2 =>
        rename_i r s' N c
        obtain ⟨ys, g1, g2, g3, g4⟩ := cellsAt_cells hR hc hM
        have e1 := bytes_eq g1 hb
        obtain ⟨ds, q1, q2, q3⟩ := hT.und hs w
        have := und_slice q3; subst this
        obtain ⟨dd, p1, p2, p3⟩ := hT.und hd w
        have := und_str p3; subst this
        obtain ⟨de, r1, r2, r3⟩ := hT.und he w
        have := und_int r3; subst this
        refine ⟨_, .str _, fun oo ho w' hw => ?_⟩
        have hl : (cs.map byteOf).length = n := by rw [List.length_map, g1.length, g2]
        have := run_convert_bytes_back (P := P) w' s d e ⟨r, s' + o, none⟩ c (cs.map byteOf) q2 r2 p2 (fun j hj => by
          refine g4 w' hw j _ ?_
          rw [e1, List.getElem?_map, List.getElem?_eq_getElem hj]; rfl)
        rw [hl] at this
        simp [execOp, ho, hz, this]
      · cases h
    · cases h
  · cases h
theorem evalC_sound {P : Program} {T : Tab} (hT : TabOK P T) {lo : Nat} {M : Mp} {H : Heap} {w : World} (hR : Rel lo M H w) {F : Fr} {a : Act} (hF : FR M F a.tmps) {op : Op} {v : Value} (h : evalC T F H op = some (true, v)) : Quiet P w M H a.eval op v := by
  unfold evalC at h
  split at h
  · split at h
    · rename_i hi
      split at h
      · rename_i hx
        split at h
        · rename_i hp; cases h; exact placeC_sound hT hR hF hi hx hp
        · exact c_place hT hF hi hx h
      · cases h
    · cases h
  · split at h
    · rename_i hx
      split at h
      · rename_i hy; exact binC_sound hT hR hF hx hy h
      · cases h
    · cases h
  · split at h
    · rename_i hx; exact c_load hT hR hF hx h
    · cases h
  · split at h
    · rename_i hx; exact c_fieldAddr hT hF hx h
    · cases h
  · split at h
    · rename_i hx; exact c_slice hT hR hF hx h
    · cases h
  · split at h
    · rename_i hi
      split at h
      · rename_i hx; exact c_index hT hF hi hx h
      · cases h
    · cases h
  · split at h
    · rename_i hx
      split at h
      · rename_i ht
        split at h
        · rename_i hf; exact c_field hT hF ht hx hf h
        · cases h
      · cases h
    · cases h
  · split at h
    · rename_i ht hl; exact c_len hT hF ht hl h
    · cases h
  · split at h
    · rename_i hx
      split at h
      · rename_i hr; cases h; exact q_conv hT hF hx hr
      · exact text_sound hT hR hF hx h
    · cases h
  · split at h
    · rename_i hx
      split at h
      · rename_i hr; cases h; exact assert_sound hT hF hx hr
      · cases h
    · cases h
  · split at h
    · rename_i hq
      cases h
      exact evalQ_sound hT hR hF hq
    · cases h
def StepOK (P : Program) (lo : Nat) (F : Fr) (H : Heap) (op : Op) (v : Value) (H' : Heap) : Prop :=
  ∀ (M : Mp) (a : Act) (w : World), Rel lo M H w → FR M F a.tmps → ∀ (o : Oper), o.op = op → ∀ (next : Act → World → Prop) (Q : Exit → Act → World → Prop),
    (∀ M' rv w', VR M' v rv → Ext lo M w M' → Rel lo M' H' w' → Keep lo M w w' → next (a.put o.dst rv) w') → o.wp P a w next Q
theorem run_callee {P : Program} {a : Act} {f : Operand} {args : Array Operand} {tys : Array TypeId} {g : FuncId} {x y : Array Value} (hf : a.eval f = .func (.func g) x y) (he : Enters P g) (o : Oper) (ho : o.op = .call ⟨.value f, args, tys⟩) (w : World) :
    (execOp a.eval o).run P w = .ok (.enter g (x ++ args.map a.eval ++ y)) w := by
  obtain ⟨fn, h1, h2, h3⟩ := he
  have h3' : fn.body.isNone = false := by cases hb : fn.body <;> simp [hb] at h3 ⊢
  simp [execOp, ho, resolve, hf, Deferred.ofValue, invoke, callFunc, h1, h2, h3']
  intro hn; rw [hn] at h3; cases h3
theorem calleeA_sound {M : Mp} {F : Fr} {a : Act} {f : Operand} {args : Array Operand} {g : FuncId} {l : List Value} (hF : FR M F a.tmps) (h : calleeA F f args.toList = some (g, l)) :
    ∃ x y, a.eval f = .func (.func g) x y ∧ ∃ rl, VRs M l rl ∧ rl.toArray = x ++ args.map a.eval ++ y := by
  unfold calleeA at h
  split at h
  · rename_i g' x y hf
    split at h
    · rename_i l' hl
      cases h
      have h1 := arg_sound hF hf
      generalize hz : a.eval f = f' at h1
      cases h1 with
      | func hx hy =>
      refine ⟨_, _, rfl, _, (hx.append (argsA_sound hF _ _ hl)).append hy, ?_⟩
      simp
    · cases h
  · cases h
theorem StepOK.of_effect {P : Program} {lo : Nat} {F : Fr} {H : Heap} {op : Op} {v : Value} {H' : Heap} (h : ∀ (M : Mp) (a : Act) (w : World), Rel lo M H w → FR M F a.tmps → Effect P lo M H w a.eval op v H') : StepOK P lo F H op v H' := fun M a w hR hF o ho next Q hk => by
  obtain ⟨M', rv, w', nx, h1, h2, h3, h4, h5, h6⟩ := h M a w hR hF
  unfold Oper.wp
  rw [h1 o ho]
  rcases h2 with rfl | ⟨rfl, rfl⟩
  · rw [Oper.upon_value]; exact hk M' rv w' h3 h4 h5 h6
  · rw [Oper.upon_skip]; exact hk M' undef w' h3 h4 h5 h6
section
variable {P : Program} {C : Ctx} (hC : CtxOK P C) {α : Type} {call : Call α} (hcall : CallsOK P call)
include hC hcall
theorem stepK_sound {lo : Nat} {F : Fr} {H : Heap} {op : Op} {K : Value → Heap → Option α} {r : α} (h : stepK C call lo F H op K = some r) : ∃ v H', K v H' = some r ∧ StepOK P lo F H op v H' := by
  unfold stepK at h
  split at h
  · rename_i f args tys
    split at h
    · rename_i g l hg
      obtain ⟨v, H', h1, h2, h3⟩ := hcall _ _ _ _ _ _ h
      refine ⟨v, H', splitB_sound h1, fun M a w hR hF o ho next Q hk => ?_⟩
      obtain ⟨x, y, hf, rl, h4, h5⟩ := calleeA_sound hF hg
      unfold Oper.wp
      rw [run_callee hf h3 o ho w, Oper.upon_enter, ← h5]
      refine (h2 M w rl hR h4).mono fun e w' ⟨M', rv, he, hv, hx, hR', hK⟩ => ?_
      subst he
      exact hk M' rv w' hv hx hR' hK
    · cases h
  · split at h
    · rename_i c v hv
      cases c with
      | false => cases h
      | true =>
      rw [cond_true] at h
      refine ⟨v, H, splitR_sound h, fun M a w hR hF o ho next Q hk => ?_⟩
      obtain ⟨rv, h1, h2⟩ := evalC_sound (P := P) hC.tab hR hF hv
      unfold Oper.wp
      rw [h2 o ho w (Told.refl _ _ _), Oper.upon_value]
      exact hk M rv w h1 (Ext.refl _ _ _) hR (Keep.refl _ _ _)
    · split at h
      · rename_i g v H' hv
        have main : (bif g then K v H' else none) = some r → ∃ v H', K v H' = some r ∧ StepOK P lo F H op v H' := fun h => by
          cases g with
          | false => cases h
          | true =>
          rw [cond_true] at h
          exact ⟨v, H', h, StepOK.of_effect fun M a w hR hF => evalF_sound (P := P) hC.tab hR hF hv⟩
        split at h
        · rename_i c hc
          cases c with
          | true =>
            rw [cond_true] at h
            exact ⟨_, H, h, StepOK.of_effect fun M a w hR hF => apdN_sound (P := P) hC.tab hR hF hc⟩
          | false => exact main h
        · exact main h
      · cases h
theorem opsK_sound {lo n : Nat} {ops : Array Oper} {r : α} : ∀ (l : List Oper) (F : Fr) (H : Heap) (K : Fr → Heap → Option α), opsK C call lo n ops.toList l F H K = some r →
    ∃ F' H', K F' H' = some r ∧ ∀ (M : Mp) (a : Act) (w : World), Rel lo M H w → FR M F a.tmps → a.tmps.size = n → a.defers = [] → ∀ (Q : Exit → Act → World → Prop),
      (∀ M' a' w', Ext lo M w M' → Rel lo M' H' w' → Keep lo M w w' → FR M' F' a'.tmps → a'.tmps.size = n → a'.defers = [] → Q .normal a' w') → wpList P ops Q l a w
  | [], F, H, K, h => ⟨F, H, h, fun M a w hR hF hs hd Q hk => wpList_nil (hk M a w (Ext.refl _ _ _) hR (Keep.refl _ _ _) hF hs hd)⟩
  | o :: l, F, H, K, h => by
    unfold opsK at h
    split at h
    · rename_i b hb
      cases b with
      | true =>
        rw [cond_true] at h
        obtain ⟨v, H1, h1, h2⟩ := stepK_sound hC hcall h
        split at h1
        · rename_i F1 hF1
          obtain ⟨F', H', h3, h4⟩ := opsK_sound l F1 H1 K h1
          refine ⟨F', H', h3, fun M a w hR hF hs hd Q hk => ?_⟩
          have hw := wantA_sound (ops := ops) hF hb
          refine wpList_step fun K' hK' => ?_
          rw [if_pos hw]
          refine h2 M a w hR hF o rfl K' Q fun M1 rv w1 hv hx hR1 hK1 => hK' _ _ ?_
          obtain ⟨p1, p2, p3⟩ := putA_sound (hF.le hx.le) hs hF1 hv
          refine h4 M1 _ w1 hR1 p1 p2 (by rw [p3]; exact hd) Q fun M2 a2 w2 hx2 hR2 hK2 hF2 hs2 hd2 => hk M2 a2 w2 (hx.trans hK1.size hx2) hR2 (hK1.trans hx hK2) hF2 hs2 hd2
        · cases h1
      | false =>
        rw [cond_false] at h
        split at h
        · rename_i F1 hF1
          obtain ⟨F', H', h3, h4⟩ := opsK_sound l F1 H K h
          refine ⟨F', H', h3, fun M a w hR hF hs hd Q hk => ?_⟩
          have hw := wantA_sound (ops := ops) hF hb
          refine wpList_step fun K' hK' => ?_
          rw [if_neg (by rw [hw]; decide)]
          obtain ⟨p1, p2, p3⟩ := putA_sound (u := undef) hF hs hF1 (plain_VR rfl)
          exact hK' _ _ (h4 M _ w hR p1 p2 (by rw [p3]; exact hd) Q hk)
        · cases h
    · cases h
theorem stepQ_sound {lo : Nat} {F : Fr} {H : Heap} {op : Op} {K : Value → Option α} {r : α} (h : stepQ C call lo F H op K = some r) :
    ∃ v, K v = some r ∧ ∀ (M : Mp) (a : Act) (w : World), Rel lo M H w → FR M F a.tmps → ∃ rv, VR M v rv ∧ ∀ (o : Oper), o.op = op → ∀ w', Below w.heap.size w w' → o.quietAt P a (fun w' => Below w.heap.size w w') w' rv := by
  unfold stepQ at h
  split at h
  · rename_i f args tys
    split at h
    · rename_i g l hg
      obtain ⟨v, H', h1, h2, h3⟩ := hcall _ _ _ _ _ _ h
      cases hp : plain v with
      | false => rw [hp] at h1; cases h1
      | true =>
        rw [hp, cond_true] at h1
        refine ⟨v, splitB_sound h1, fun M a w hR hF => ⟨v, plain_VR hp, fun o ho w' hw' => ?_⟩⟩
        obtain ⟨x, y, hf, rl, h4, h5⟩ := calleeA_sound hF hg
        unfold Oper.quietAt
        rw [run_callee hf h3 o ho w']
        refine ⟨rfl, ?_⟩
        rw [← h5]
        refine (h2 M w' rl ((hR.below hw').raise (Nat.le_add_left _ _)) h4).mono fun e w'' ⟨M', rv, he, hv, hx, hR', hK⟩ => ?_
        subst he
        have := plain_eq hp hv
        subst this
        exact ⟨rfl, hw'.trans ((hK.below (by rw [hR.len]; exact Nat.le_add_right _ _)).mono hw'.size)⟩
    · cases h
  · split at h
    · rename_i c v hv
      cases c with
      | false => cases h
      | true =>
      rw [cond_true] at h
      refine ⟨v, splitR_sound h, fun M a w hR hF => ?_⟩
      obtain ⟨rv, h1, h2⟩ := evalC_sound (P := P) hC.tab hR hF hv
      refine ⟨rv, h1, fun o ho w' hw' => ?_⟩
      unfold Oper.quietAt
      rw [h2 o ho w' (Told.of_below hR hw')]
      exact ⟨rfl, rfl⟩
    · cases h
theorem quietK_sound {lo n : Nat} {ops : Array Oper} {H : Heap} {r : α} : ∀ (l : List Oper) (F : Fr) (K : Fr → Option α), quietK C call lo n ops.toList H l F K = some r →
    ∃ F', K F' = some r ∧ ∀ (M : Mp) (a : Act) (w : World), Rel lo M H w → FR M F a.tmps → a.tmps.size = n → a.defers = [] → ∀ (Q : Act → Prop),
      (∀ a', FR M F' a'.tmps → a'.tmps.size = n → a'.defers = [] → Q a') → wpQuiet P ops (fun w' => Below w.heap.size w w') Q l a
  | [], F, K, h => ⟨F, h, fun M a w hR hF hs hd Q hk => wpQuiet_nil (hk a hF hs hd)⟩
  | o :: l, F, K, h => by
    unfold quietK at h
    split at h
    · rename_i b hb
      cases b with
      | true =>
        rw [cond_true] at h
        obtain ⟨v, h1, h2⟩ := stepQ_sound hC hcall h
        split at h1
        · rename_i F1 hF1
          obtain ⟨F', h3, h4⟩ := quietK_sound l F1 K h1
          refine ⟨F', h3, fun M a w hR hF hs hd Q hk => ?_⟩
          have hw := wantA_sound (ops := ops) hF hb
          obtain ⟨rv, h5, h6⟩ := h2 M a w hR hF
          obtain ⟨p1, p2, p3⟩ := putA_sound hF hs hF1 h5
          unfold wpQuiet
          rw [if_pos hw]
          exact ⟨rv, fun w' hw' => h6 o rfl w' hw', h4 M _ w hR p1 p2 (by rw [p3]; exact hd) Q hk⟩
        · cases h1
      | false =>
        rw [cond_false] at h
        split at h
        · rename_i F1 hF1
          obtain ⟨F', h3, h4⟩ := quietK_sound l F1 K h
          refine ⟨F', h3, fun M a w hR hF hs hd Q hk => ?_⟩
          have hw := wantA_sound (ops := ops) hF hb
          obtain ⟨p1, p2, p3⟩ := putA_sound (u := undef) hF hs hF1 (plain_VR rfl)
          unfold wpQuiet
          rw [if_neg (by rw [hw]; decide)]
          exact h4 M _ w hR p1 p2 (by rw [p3]; exact hd) Q hk
        · cases h
    · cases h
omit hcall in
theorem headK_sound {lo n : Nat} {ops : Array Oper} {H : Heap} {r : α} : ∀ (l : List Nat) (F : Fr) (K : Fr → Option α), headK C n ops.toList H l F K = some r →
    ∃ F', K F' = some r ∧ ∀ (M : Mp) (a : Act) (w : World), Rel lo M H w → FR M F a.tmps → a.tmps.size = n → a.defers = [] → ∀ (Q : Act → Prop),
      (∀ a', FR M F' a'.tmps → a'.tmps.size = n → a'.defers = [] → Q a') → wpHeadC P ops (fun w' => Told M H w w') Q l a
  | [], F, K, h => ⟨F, h, fun M a w hR hF hs hd Q hk => hk a hF hs hd⟩
  | i :: l, F, K, h => by
    unfold headK at h
    split at h
    · rename_i o ho
      have ho' : ops[i]? = some o := by simpa using ho
      split at h
      · rename_i b hb
        cases b with
        | true =>
          rw [cond_true] at h
          split at h
          · rename_i c v hv
            cases c with
            | false => cases h
            | true =>
            rw [cond_true] at h
            have h1 := splitR_sound h
            split at h1
            · rename_i F1 hF1
              obtain ⟨F', h3, h4⟩ := headK_sound l F1 K h1
              refine ⟨F', h3, fun M a w hR hF hs hd Q hk => ?_⟩
              have hw := wantA_sound (ops := ops) hF hb
              obtain ⟨rv, h5, h6⟩ := evalC_sound (P := P) hC.tab hR hF hv
              obtain ⟨p1, p2, p3⟩ := putA_sound hF hs hF1 h5
              exact ⟨o, rv, ho', .inl ⟨hw, fun w' hw' => h6 o rfl w' hw'⟩, h4 M _ w hR p1 p2 (by rw [p3]; exact hd) Q hk⟩
            · cases h1
          · cases h
        | false =>
          rw [cond_false] at h
          split at h
          · rename_i F1 hF1
            obtain ⟨F', h3, h4⟩ := headK_sound l F1 K h
            refine ⟨F', h3, fun M a w hR hF hs hd Q hk => ?_⟩
            have hw := wantA_sound (ops := ops) hF hb
            obtain ⟨p1, p2, p3⟩ := putA_sound (u := undef) hF hs hF1 (plain_VR rfl)
            exact ⟨o, undef, ho', .inr ⟨hw, rfl⟩, h4 M _ w hR p1 p2 (by rw [p3]; exact hd) Q hk⟩
          · cases h
      · cases h
    · cases h
theorem tailK_sound {lo n : Nat} {ops : Array Oper} {r : α} : ∀ (l : List Nat) (F : Fr) (H : Heap) (K : Fr → Heap → Option α), tailK C call lo n ops.toList l F H K = some r →
    ∃ F' H', K F' H' = some r ∧ ∀ (M : Mp) (a : Act) (w : World), Rel lo M H w → FR M F a.tmps → a.tmps.size = n → a.defers = [] → ∀ (Cl : World → Prop), (∀ w', Keep lo M w w' → Cl w') → ∀ (Q : Exit → Act → World → Prop),
      (∀ M' a' w', Ext lo M w M' → Rel lo M' H' w' → Keep lo M w w' → FR M' F' a'.tmps → a'.tmps.size = n → a'.defers = [] → Q .normal a' w') → wpSeqC P ops Cl Q l a w
  | [], F, H, K, h => ⟨F, H, h, fun M a w hR hF hs hd Cl hCl Q hk => ⟨hCl w (Keep.refl _ _ _), hk M a w (Ext.refl _ _ _) hR (Keep.refl _ _ _) hF hs hd⟩⟩
  | i :: l, F, H, K, h => by
    unfold tailK at h
    split at h
    · rename_i o ho
      have ho' : ops[i]? = some o := by simpa using ho
      split at h
      · rename_i b hb
        cases b with
        | true =>
          rw [cond_true] at h
          obtain ⟨v, H1, h1, h2⟩ := stepK_sound hC hcall h
          split at h1
          · rename_i F1 hF1
            obtain ⟨F', H', h3, h4⟩ := tailK_sound l F1 H1 K h1
            refine ⟨F', H', h3, fun M a w hR hF hs hd Cl hCl Q hk => ⟨hCl w (Keep.refl _ _ _), ?_⟩⟩
            have hw := wantA_sound (ops := ops) hF hb
            unfold wpOp
            simp only [ho', hw, if_true]
            left
            refine h2 M a w hR hF o rfl _ Q fun M1 rv w1 hv hx hR1 hK1 => ?_
            obtain ⟨p1, p2, p3⟩ := putA_sound (hF.le hx.le) hs hF1 hv
            exact h4 M1 _ w1 hR1 p1 p2 (by rw [p3]; exact hd) Cl (fun w' hk' => hCl w' (hK1.trans hx hk')) Q fun M2 a2 w2 hx2 hR2 hK2 hF2 hs2 hd2 => hk M2 a2 w2 (hx.trans hK1.size hx2) hR2 (hK1.trans hx hK2) hF2 hs2 hd2
          · cases h1
        | false =>
          rw [cond_false] at h
          split at h
          · rename_i F1 hF1
            obtain ⟨F', H', h3, h4⟩ := tailK_sound l F1 H K h
            refine ⟨F', H', h3, fun M a w hR hF hs hd Cl hCl Q hk => ⟨hCl w (Keep.refl _ _ _), ?_⟩⟩
            have hw := wantA_sound (ops := ops) hF hb
            unfold wpOp
            simp only [ho', hw, Bool.false_eq_true, if_false]
            obtain ⟨p1, p2, p3⟩ := putA_sound (u := undef) hF hs hF1 (plain_VR rfl)
            exact h4 M _ w hR p1 p2 (by rw [p3]; exact hd) Cl hCl Q hk
          · cases h
      · cases h
    · cases h
omit hC hcall in
theorem Rel.merge {lo : Nat} {M M1 : Mp} {H H1 : Heap} {w w1 : World} (h : Rel lo M H w) (hx : Ext (Nat.max lo H.length) M w M1) (h1 : Rel (Nat.max lo H.length) M1 H1 w1) (hb : Below w.heap.size w w1) :
    Rel lo M1 (H ++ H1.drop H.length) w1 ∧ Ext lo M w M1 := by
  have hlen : M.pl.length ≤ M1.pl.length := by
    rcases Nat.eq_zero_or_pos M.pl.length with h0 | h0
    · omega
    · have := hx.le.at_ (M.pl.length - 1) (M.pl[M.pl.length - 1]) (List.getElem?_eq_getElem (by omega))
      have := (List.getElem?_eq_some_iff.1 this).1
      omega
  have hmx : H.length ≤ Nat.max lo H.length := Nat.le_max_right _ _
  have no : ∀ {j : Nat} {q : Pl}, Nat.max lo H.length ≤ j → M.pl[j]? = some q → False := by
    intro j q h1 h2
    have h3 := (List.getElem?_eq_some_iff.1 h2).1
    rw [h.len] at h3
    exact absurd (Nat.lt_of_lt_of_le h3 (Nat.le_trans hmx h1)) (Nat.lt_irrefl _)
  have hHH : H.length ≤ H1.length := by rw [← h.len, ← h1.len]; exact hlen
  have old : ∀ (i : Nat), i < H.length → M1.pl[i]? = M.pl[i]? := by
    intro i hi
    have hiM : i < M.pl.length := by rw [h.len]; exact hi
    rw [List.getElem?_eq_getElem hiM]
    exact hx.le.at_ i _ (List.getElem?_eq_getElem hiM)
  have fresh : ∀ (i : Nat) (p : Pl), H.length ≤ i → M1.pl[i]? = some p → w.heap.size ≤ p.1 := by
    intro i p hi e
    rcases hx.new i p (by rw [h.len]; exact hi) e with h1 | ⟨j, q, h1, h2, _⟩
    · exact h1
    · exact (no h1 h2).elim
  have gH : ∀ (i : Nat) (b : Blk), (H ++ H1.drop H.length)[i]? = some (some b) → (i < H.length ∧ H[i]? = some (some b)) ∨ (H.length ≤ i ∧ H1[i]? = some (some b)) := by
    intro i b e
    rcases Nat.lt_or_ge i H.length with hi | hi
    · rw [List.getElem?_append_left hi] at e; exact .inl ⟨hi, e⟩
    · rw [List.getElem?_append_right hi, List.getElem?_drop, Nat.add_sub_cancel' hi] at e; exact .inr ⟨hi, e⟩
  have up : ∀ (i : Nat), H.length ≤ i → lo ≤ i → Nat.max lo H.length ≤ i := fun i h1 h2 => Nat.max_le.2 ⟨h2, h1⟩
  refine ⟨⟨by rw [h1.len]; simp; omega, h1.dom, fun i b e => ?_, fun i p hi e => ?_, fun i j b b' p q hij e1 e2 e3 e4 hl => ?_, fun r o ys e => ⟨(h1.froz r o ys e).1, fun i p hi ep => ?_⟩, h1.gl⟩, ⟨hx.le, fun i p hi e => .inl (fresh i p (by rw [← h.len]; exact hi) e), fun r o ys e => ?_⟩⟩
  · rcases gH i b e with ⟨hi, e⟩ | ⟨hi, e⟩
    · obtain ⟨r, s, cs, t, fz, g1, g2, g3, g4, g5, g6⟩ := h.blk i b e
      exact ⟨r, s, cs, t, fz, by rw [old i hi]; exact g1, by rw [hb.block r (h.dom i _ g1)]; exact g2, g3, g4, g5.le hx.le, fun p o hp => let ⟨s', N', k1, k2⟩ := g6 p o hp; ⟨s', N', hx.le.at_ _ _ k1, k2⟩⟩
    · obtain ⟨r, s, cs, t, fz, g1, g2, g3, g4⟩ := h1.blk i b e
      exact ⟨r, s, cs, t, fz, g1, g2, fun hlo => g3 (up i hi hlo), g4⟩
  · rcases Nat.lt_or_ge i H.length with hil | hil
    · rw [old i hil] at e; exact h.own i p hi e
    · exact h1.own i p (up i hil hi) e
  · rcases gH i b e1 with ⟨hi, f1⟩ | ⟨hi, f1⟩ <;> rcases gH j b' e2 with ⟨hj, f2⟩ | ⟨hj, f2⟩
    · rw [old i hi] at e3; rw [old j hj] at e4
      exact h.inj i j b b' p q hij f1 f2 e3 e4 hl
    · rw [old i hi] at e3
      have g1 := h.dom i p e3
      have g2 := fresh j q hj e4
      omega
    · rw [old j hj] at e4
      have g1 := h.dom j q e4
      have g2 := fresh i p hi e3
      omega
    · refine h1.inj i j b b' p q hij f1 f2 e3 e4 ?_
      rcases hl with hl | hl
      · exact .inl (up i hi hl)
      · exact .inr (up j hj hl)
  · rcases Nat.lt_or_ge i H.length with hil | hil
    · rw [old i hil] at ep
      rcases hx.newfz r o ys e with h2 | h2 | ⟨j, q, h2, h3, _⟩
      · exact (h.froz r o ys h2).2 i p hi ep
      · have := h.dom i p ep; omega
      · exact (no h2 h3).elim
    · exact (h1.froz r o ys e).2 i p (up i hil hi) ep
  · rcases hx.newfz r o ys e with h2 | h2 | ⟨j, q, h2, h3, _⟩
    · exact .inl h2
    · exact .inr (.inl h2)
    · exact (no h2 h3).elim
theorem tailU_sound {lo n : Nat} {ops : Array Oper} {r : α} : ∀ (l : List Nat) (F : Fr) (H : Heap) (K : Fr → Heap → Option α), tailU C call lo n ops.toList l F H K = some r →
    ∃ F' H', K F' H' = some r ∧ ∀ (M : Mp) (a : Act) (w : World), Rel lo M H w → FR M F a.tmps → a.tmps.size = n → a.defers = [] → ∀ (Cl : World → Prop), (∀ w', Below w.heap.size w w' → Cl w') → ∀ (Q : Exit → Act → World → Prop) (K' : Act → World → Prop),
      (∀ M' a' w', Ext lo M w M' → Rel lo M' H' w' → Below w.heap.size w w' → FR M' F' a'.tmps → a'.tmps.size = n → a'.defers = [] → K' a' w') → wpSeqL P ops Cl Q K' l a w
  | [], F, H, K, h => ⟨F, H, h, fun M a w hR hF hs hd Cl hCl Q K' hk => ⟨hCl w (Below.refl _ _), hk M a w (Ext.refl _ _ _) hR (Below.refl _ _) hF hs hd⟩⟩
  | i :: l, F, H, K, h => by
    unfold tailU at h
    split at h
    · rename_i o ho
      have ho' : ops[i]? = some o := by simpa using ho
      split at h
      · rename_i b hb
        cases b with
        | true =>
          rw [cond_true] at h
          obtain ⟨v, H1, h1, h2⟩ := stepK_sound hC hcall h
          split at h1
          · rename_i F1 hF1
            obtain ⟨F', H', h3, h4⟩ := tailU_sound l F1 _ K h1
            refine ⟨F', H', h3, fun M a w hR hF hs hd Cl hCl Q K' hk => ⟨hCl w (Below.refl _ _), ?_⟩⟩
            have hw := wantA_sound (ops := ops) hF hb
            unfold wpOp
            simp only [ho', hw, if_true]
            left
            refine h2 M a w (hR.raise (Nat.le_max_left _ _)) hF o rfl _ Q fun M1 rv w1 hv hx hR1 hK1 => ?_
            have hB1 : Below w.heap.size w w1 := hK1.below (by rw [hR.len]; exact Nat.le_max_right _ _)
            obtain ⟨hRm, hxm⟩ := hR.merge hx hR1 hB1
            obtain ⟨p1, p2, p3⟩ := putA_sound (hF.le hx.le) hs hF1 hv
            exact h4 M1 _ w1 hRm p1 p2 (by rw [p3]; exact hd) Cl (fun w' hb' => hCl w' (hB1.trans (hb'.mono hB1.size))) Q K' fun M2 a2 w2 hx2 hR2 hB2 hF2 hs2 hd2 => hk M2 a2 w2 (hxm.trans hB1.size hx2) hR2 (hB1.trans (hB2.mono hB1.size)) hF2 hs2 hd2
          · cases h1
        | false =>
          rw [cond_false] at h
          split at h
          · rename_i F1 hF1
            obtain ⟨F', H', h3, h4⟩ := tailU_sound l F1 H K h
            refine ⟨F', H', h3, fun M a w hR hF hs hd Cl hCl Q K' hk => ⟨hCl w (Below.refl _ _), ?_⟩⟩
            have hw := wantA_sound (ops := ops) hF hb
            unfold wpOp
            simp only [ho', hw, Bool.false_eq_true, if_false]
            obtain ⟨p1, p2, p3⟩ := putA_sound (u := undef) hF hs hF1 (plain_VR rfl)
            exact h4 M _ w hR p1 p2 (by rw [p3]; exact hd) Cl hCl Q K' hk
          · cases h
      · cases h
    · cases h
omit hC hcall in
theorem wpSeq2_of_C {ops : Array Oper} {Q : Exit → Act → World → Prop} {Cl : World → Prop} : ∀ (l : List Nat) (a : Act) (w : World), wpSeqC P ops Cl Q l a w → wpSeq2 P ops Q l a w
  | [], a, w, h => h.2
  | i :: l, a, w, h => wpOp_mono (fun a' w' h' => wpSeq2_of_C l a' w' h') h.2
omit hC hcall in
theorem slotK_sound {n : Nat} {ops : Array Oper} {r : α} : ∀ (l : List Nat) (F : Fr) (K : Fr → Option α), slotK n ops.toList l F K = some r →
    ∃ F', K F' = some r ∧ ∀ (M : Mp) (a : Act), FR M F a.tmps → a.tmps.size = n → a.defers = [] → ∀ (Q : Act → Prop), (∀ a', FR M F' a'.tmps → a'.tmps.size = n → a'.defers = [] → Q a') → wpHeadC P ops (fun _ => True) Q l a
  | [], F, K, h => ⟨F, h, fun M a hF hs hd Q hk => hk a hF hs hd⟩
  | i :: l, F, K, h => by
    unfold slotK at h
    split at h
    · rename_i dst x ty pos af ho
      have ho' : ops[i]? = some ⟨dst, .move x, ty, pos, af, none⟩ := by simpa using ho
      split at h
      · rename_i v hv
        split at h
        · rename_i F1 hF1
          obtain ⟨F', h3, h4⟩ := slotK_sound l F1 K h
          refine ⟨F', h3, fun M a hF hs hd Q hk => ?_⟩
          obtain ⟨p1, p2, p3⟩ := putA_sound hF hs hF1 (arg_sound hF hv)
          exact ⟨_, a.eval x, ho', .inl ⟨rfl, fun w' _ => by simp [execOp]⟩, h4 M _ p1 p2 (by rw [p3]; exact hd) Q hk⟩
        · cases h
      · cases h
    · cases h
omit hC hcall in
theorem Rel.newAt {lo : Nat} {M : Mp} {H : Heap} {w w' : World} (h : Rel lo M H w) (hb : Below w.heap.size w w') {r : Nat} (hr : w.heap.size ≤ r) {cs : List Value} {b : Blk} (hw : w'.heap[r]? = some (.cells cs.toArray b.elem (0, 0))) (hl : b.cells.length ≤ cs.length)
    (hv : VRs M b.cells (cs.take b.cells.length)) (hnv : b.view = none) : Rel lo (M.add (r, 0, cs.length)) (H ++ [some b]) w' ∧ Ext lo M w (M.add (r, 0, cs.length)) := by
  have h' := h.below hb
  refine ⟨⟨by simp [h.len, Mp.add_pl], fun i p e => ?_, fun i b' e => ?_, fun i p hi e => ?_, fun i j b1 b2 p q hij hb1 hb2 hp hq hlo => ?_, fun r' o ys e => ?_, h'.gl⟩, ⟨Le.add _ _, fun i p hi e => ?_, fun _ _ _ h => .inl h⟩⟩
  · rcases getElem?_snoc _ _ _ _ e with ⟨_, e⟩ | ⟨_, rfl⟩
    · exact h'.dom i p e
    · exact (Array.getElem?_eq_some_iff.1 hw).1
  · rcases getElem?_snoc _ _ _ _ e with ⟨_, e⟩ | ⟨hi, e⟩
    · obtain ⟨r', s, c, t, fz, h1, h2, h2', h3, h4, h5⟩ := h'.blk i b' e
      exact ⟨r', s, c, t, fz, (Le.add _ _).at_ _ _ h1, h2, h2', h3, h4.le (Le.add _ _), fun p o hp => let ⟨s', N', k1, k2⟩ := h5 p o hp; ⟨s', N', (Le.add _ _).at_ _ _ k1, k2⟩⟩
    · cases e
      subst hi
      exact ⟨r, 0, cs, b.elem, (0, 0), Mp.add_get h.len, hw, fun _ => ⟨rfl, rfl⟩, by omega, by rw [List.drop_zero]; exact hv.le (Le.add _ _), fun p o hp => by rw [hnv] at hp; cases hp⟩
  · rcases getElem?_snoc _ _ _ _ e with ⟨_, e⟩ | ⟨_, rfl⟩
    · exact h.own i p hi e
    · rfl
  · rcases getElem?_snoc _ _ _ _ hb1 with ⟨li, e1⟩ | ⟨hi, _⟩ <;> rcases getElem?_snoc _ _ _ _ hb2 with ⟨lj, e2⟩ | ⟨hj, _⟩
    · rcases getElem?_snoc _ _ _ _ hp with ⟨_, e3⟩ | ⟨h3, _⟩
      · rcases getElem?_snoc _ _ _ _ hq with ⟨_, e4⟩ | ⟨h4, _⟩
        · exact h.inj i j _ _ p q hij e1 e2 e3 e4 hlo
        · rw [h.len] at h4; omega
      · rw [h.len] at h3; omega
    · rcases getElem?_snoc _ _ _ _ hp with ⟨_, e3⟩ | ⟨h3, _⟩
      · have := h.dom i p e3
        rcases getElem?_snoc _ _ _ _ hq with ⟨h4, _⟩ | ⟨_, rfl⟩
        · rw [h.len] at h4; omega
        · show p.1 ≠ r
          omega
      · rw [h.len] at h3; omega
    · rcases getElem?_snoc _ _ _ _ hq with ⟨_, e3⟩ | ⟨h3, _⟩
      · have := h.dom j q e3
        rcases getElem?_snoc _ _ _ _ hp with ⟨h4, _⟩ | ⟨_, rfl⟩
        · rw [h.len] at h4; omega
        · show r ≠ q.1
          omega
      · rw [h.len] at h3; omega
    · omega
  · obtain ⟨f1, f2⟩ := h.froz r' o ys e
    refine ⟨(h'.froz r' o ys e).1, fun i p hi e => ?_⟩
    rcases getElem?_snoc _ _ _ _ e with ⟨_, e⟩ | ⟨_, rfl⟩
    · exact f2 i p hi e
    · have := f1.lt
      show r ≠ r'
      omega
  · rcases getElem?_snoc _ _ _ _ e with ⟨h1, _⟩ | ⟨_, rfl⟩
    · omega
    · exact .inl hr
theorem stepS_sound {lo : Nat} {F : Fr} {H : Heap} {op : Op} {K : Value → Option α} {r : α} (h : stepQ C call lo F H op K = some r) :
    ∃ v, K v = some r ∧ ∀ (M : Mp) (a : Act) (w : World), Rel lo M H w → FR M F a.tmps → ∃ rv, VR M v rv ∧ ∀ (o : Oper), o.op = op → ∀ w', Below w.heap.size w w' → o.quietAt P a (fun w'' => Below w'.heap.size w' w'') w' rv := by
  unfold stepQ at h
  split at h
  · rename_i f args tys
    split at h
    · rename_i g l hg
      obtain ⟨v, H', h1, h2, h3⟩ := hcall _ _ _ _ _ _ h
      cases hp : plain v with
      | false => rw [hp] at h1; cases h1
      | true =>
        rw [hp, cond_true] at h1
        refine ⟨v, splitB_sound h1, fun M a w hR hF => ⟨v, plain_VR hp, fun o ho w' hw' => ?_⟩⟩
        obtain ⟨x, y, hf, rl, h4, h5⟩ := calleeA_sound hF hg
        unfold Oper.quietAt
        rw [run_callee hf h3 o ho w']
        refine ⟨rfl, ?_⟩
        rw [← h5]
        refine (h2 M w' rl ((hR.below hw').raise (Nat.le_add_left _ _)) h4).mono fun e w'' ⟨M', rv, he, hv, hx, hR', hK⟩ => ?_
        subst he
        have := plain_eq hp hv
        subst this
        exact ⟨rfl, hK.below (by rw [hR.len]; exact Nat.le_add_right _ _)⟩
    · cases h
  · split at h
    · rename_i c v hv
      cases c with
      | false => cases h
      | true =>
      rw [cond_true] at h
      refine ⟨v, splitR_sound h, fun M a w hR hF => ?_⟩
      obtain ⟨rv, h1, h2⟩ := evalC_sound (P := P) hC.tab hR hF hv
      refine ⟨rv, h1, fun o ho w' hw' => ?_⟩
      unfold Oper.quietAt
      rw [h2 o ho w' (Told.of_below hR hw')]
      exact ⟨rfl, rfl⟩
    · cases h
omit hC hcall in
theorem quietAt_mono {o : Oper} {a : Act} {C1 C2 : World → Prop} {w : World} {v : Value} (h : ∀ w', C1 w' → C2 w') (hq : o.quietAt P a C1 w v) : o.quietAt P a C2 w v := by
  unfold Oper.quietAt at *
  generalize (execOp a.eval o).run P w = r at *
  cases r with
  | ok n w' =>
    cases n <;> simp only [Oper.quietUpon] at hq ⊢
    case value => exact hq
    case skip => exact hq
    case enter => exact ⟨hq.1, hq.2.mono fun e w'' ⟨h1, h2⟩ => ⟨h1, h w'' h2⟩⟩
  | halt x w' => simp only [Oper.quietUpon] at hq
theorem quietL_sound {lo n : Nat} {ops : Array Oper} {H : Heap} {r : α} : ∀ (l : List Nat) (F : Fr) (K : Fr → Option α), quietL C call lo n ops.toList H l F K = some r →
    ∃ F', K F' = some r ∧ ∀ (M : Mp) (a : Act) (w : World), Rel lo M H w → FR M F a.tmps → a.tmps.size = n → a.defers = [] → ∀ (Cr : Nat → World → Prop), (∀ k w', Cr k w' → Below w.heap.size w w') → (∀ k w' w'', Cr k w' → Below w'.heap.size w' w'' → Cr k w'') → ∀ (Q : Act → Prop),
      (∀ a', FR M F' a'.tmps → a'.tmps.size = n → a'.defers = [] → Q a') → wpQs P ops (fun w' => Below w.heap.size w w') Cr Q l a
  | [], F, K, h => ⟨F, h, fun M a w hR hF hs hd Cr _ _ Q hk => hk a hF hs hd⟩
  | i :: l, F, K, h => by
    unfold quietL at h
    split at h
    · rename_i o ho
      have ho' : ops[i]? = some o := by simpa using ho
      split at h
      · rename_i b hb
        cases b with
        | true =>
          rw [cond_true] at h
          obtain ⟨v, h1, h2⟩ := stepS_sound hC hcall h
          split at h1
          · rename_i F1 hF1
            obtain ⟨F', h3, h4⟩ := quietL_sound l F1 K h1
            refine ⟨F', h3, fun M a w hR hF hs hd Cr hc1 hc2 Q hk => ?_⟩
            have hw := wantA_sound (ops := ops) hF hb
            obtain ⟨rv, h5, h6⟩ := h2 M a w hR hF
            obtain ⟨p1, p2, p3⟩ := putA_sound hF hs hF1 h5
            refine ⟨o, rv, ho', fun st => .inl ⟨hw, fun w' hw' => ?_⟩, h4 M _ w hR p1 p2 (by rw [p3]; exact hd) Cr hc1 hc2 Q hk⟩
            cases st with
            | none => exact quietAt_mono (fun w'' hb => Below.trans hw' (hb.mono (Below.size hw'))) (h6 o rfl w' hw')
            | some k => exact quietAt_mono (fun w'' hb => hc2 k w' w'' hw' hb) (h6 o rfl w' (hc1 k w' hw'))
          · cases h1
        | false =>
          rw [cond_false] at h
          split at h
          · rename_i F1 hF1
            obtain ⟨F', h3, h4⟩ := quietL_sound l F1 K h
            refine ⟨F', h3, fun M a w hR hF hs hd Cr hc1 hc2 Q hk => ?_⟩
            have hw := wantA_sound (ops := ops) hF hb
            obtain ⟨p1, p2, p3⟩ := putA_sound (u := undef) hF hs hF1 (plain_VR rfl)
            exact ⟨o, undef, ho', fun st => .inr ⟨hw, rfl⟩, h4 M _ w hR p1 p2 (by rw [p3]; exact hd) Cr hc1 hc2 Q hk⟩
          · cases h
      · cases h
    · cases h
end
end Go.Proofs.YtgkicojmgokinaaGreatDoor.Ab
