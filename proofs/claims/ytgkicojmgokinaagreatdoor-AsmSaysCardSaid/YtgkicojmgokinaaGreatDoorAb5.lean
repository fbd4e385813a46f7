/- Trimmed: Ab5, Ab6 -/
import Derived.Test.YtgkicojmgokinaaGreatDoorAb4
namespace Go.Proofs.YtgkicojmgokinaaGreatDoor.Ab
open Go Go.RowKit
set_option linter.unusedVariables false
set_option linter.unusedSimpArgs false
section
variable {P : Program} {T : Tab} (hT : TabOK P T) {lo : Nat} {M : Mp} {H : Heap} {w : World} (hR : Rel lo M H w) {F : Fr} {a : Act} (hF : FR M F a.tmps) {v : Value}
theorem fold_splice (vs : List Value) : ∀ (k off : Nat) (cs : List Value), off + k + vs.length ≤ cs.length →
    (vs.toArray.zipIdx k).foldl (fun cs (x : Value × Nat) => cs.setIfInBounds (off + x.2) x.1) cs.toArray = (cs.take (off + k) ++ vs ++ cs.drop (off + k + vs.length)).toArray := by
  induction vs with
  | nil => intro k off cs h; simp [Array.zipIdx]
  | cons v vs ih =>
    intro k off cs h
    have e : (v :: vs).toArray.zipIdx k = ((v, k) :: vs.zipIdx (k + 1)).toArray := by simp
    rw [e]
    have ih' := ih (k + 1) off (cs.set (off + k) v) (by simp at h ⊢; omega)
    have e2 : vs.toArray.zipIdx (k + 1) = (vs.zipIdx (k + 1)).toArray := by simp
    rw [e2] at ih'
    simp only [List.foldl_toArray', List.foldl_cons, List.setIfInBounds_toArray] at ih' ⊢
    rw [ih']
    congr 1
    have hl : off + k < cs.length := by simp at h; omega
    apply List.ext_getElem?
    intro j
    simp only [List.append_assoc, List.cons_append, List.length_cons]
    have m1 : (List.take (off + (k + 1)) (cs.set (off + k) v)).length = off + k + 1 := by simp; omega
    have m2 : (List.take (off + k) cs).length = off + k := by simp; omega
    rw [List.getElem?_append (l₁ := List.take (off + (k + 1)) (cs.set (off + k) v)), List.getElem?_append (l₁ := List.take (off + k) cs), m1, m2]
    by_cases h1 : j < off + k
    · rw [if_pos (by omega), if_pos h1, List.getElem?_take_of_lt (by omega), List.getElem?_take_of_lt h1, List.getElem?_set_ne (by omega)]
    · by_cases h2 : j = off + k
      · subst h2
        rw [if_pos (by omega), if_neg (by omega), List.getElem?_take_of_lt (by omega), List.getElem?_set_self hl]
        simp
      · rw [if_neg (by omega), if_neg (by omega)]
        have h3 : j - (off + k) = (j - (off + k + 1)) + 1 := by omega
        rw [h3, List.getElem?_cons_succ, List.getElem?_append, List.getElem?_append]
        split
        · rfl
        · rw [List.getElem?_drop, List.getElem?_drop, List.getElem?_set_ne (by omega)]
          congr 1; omega
theorem cells_VRs {M : Mp} {v v' : Value} (hv : VR M v v') : VRs M v.cells.toList v'.cells.toList := by
  have keep := hv
  cases hv
  case agg h => exact h
  case opq h =>
    have e : v'.cells = #[v'] := by cases v' <;> first | rfl | cases h
    rw [e]; exact .cons keep .nil
  case pin h =>
    have e : v'.cells = #[v'] := by cases v' <;> first | rfl | cases h
    rw [e]; exact .cons keep .nil
  all_goals exact .cons keep .nil
theorem fillA_sound (place : Nat → Option (Nat × Nat)) : ∀ (ps ps' : List (Nat × Value)) (cs cs' out : List Value), VRs M cs cs' → ps.map (·.1) = ps'.map (·.1) → VRs M (ps.map (·.2)) (ps'.map (·.2)) → fillA place cs ps = some out →
    ∃ out', VRs M out out' ∧ Instr.fill place cs'.toArray ps' = some out'.toArray := by
  intro ps
  induction ps with
  | nil =>
    intro ps' cs cs' out hc h1 h2 h
    cases ps' with
    | nil => cases h; exact ⟨cs', hc, rfl⟩
    | cons _ _ => simp at h1
  | cons p ps ih =>
    intro ps' cs cs' out hc h1 h2 h
    cases ps' with
    | nil => simp at h1
    | cons p' ps' =>
      obtain ⟨i, v⟩ := p
      obtain ⟨i', v'⟩ := p'
      simp only [List.map_cons, List.cons.injEq] at h1
      obtain ⟨rfl, h1⟩ := h1
      simp only [List.map_cons] at h2
      cases h2 with
      | cons hv h2 =>
      unfold fillA at h
      split at h
      · rename_i off size hpl
        split at h
        · rename_i hs
          obtain ⟨hs1, hs2⟩ := hs
          have hcells : VRs M v.cells.toList v'.cells.toList := by
            exact cells_VRs hv
          have hl := hcells.length
          have hcl := hc.length
          obtain ⟨out', h3, h4⟩ := ih ps' _ (cs'.take off ++ v'.cells.toList ++ cs'.drop (off + size)) out (((hc.take off).append hcells).append (hc.drop (off + size))) h1 h2 h
          refine ⟨out', h3, ?_⟩
          unfold Instr.fill
          simp only [hpl]
          have hz1 : v'.cells.size = size := by rw [← Array.length_toList, ← hl, hs1]
          rw [if_neg (by simp only [hz1, List.size_toArray]; simp; omega)]
          have := fold_splice v'.cells.toList 0 off cs' (by rw [← hl, hs1, ← hcl]; omega)
          simp only [Nat.add_zero, Array.toArray_toList] at this
          have e : off + v'.cells.toList.length = off + size := by rw [← hl, hs1]
          rw [e] at this
          rw [← h4, ← this]
        · cases h
      · cases h
include hF in
theorem partsA_sound : ∀ (ps : List (Nat × Operand)) (l : List (Nat × Value)), partsA F ps = some l → l.map (·.1) = ps.map (·.1) ∧ VRs M (l.map (·.2)) ((ps.map fun (i, x) => (i, a.eval x)).map (·.2))
  | [], l, h => by cases h; exact ⟨rfl, .nil⟩
  | (i, x) :: r, l, h => by
    unfold partsA at h
    split at h
    · rename_i v hv
      split at h
      · rename_i l' hl
        cases h
        obtain ⟨h1, h2⟩ := partsA_sound r l' hl
        exact ⟨by simp [h1], .cons (arg_sound hF hv) h2⟩
      · cases h
    · cases h
include hT in
theorem sizesA_places : ∀ (fs : List Field) (l : List (Nat × Nat)), sizesA T (fs.map fun f => (f.offset, f.type)) = some l →
    fs.mapM (fun f => (P.info? f.type).map fun i => (f.offset, i.size)) = some l
  | [], l, h => by cases h; rfl
  | f :: fs, l, h => by
    simp only [List.map_cons, sizesA] at h
    split at h
    · rename_i i hi
      split at h
      · rename_i l' hl
        cases h
        have ih := sizesA_places fs l' hl
        obtain ⟨info, d, h1, h2, h3, h4, _⟩ := hT.get hi
        rw [List.mapM_cons, h1, ih]
        simp [h4]
      · cases h
    · cases h
include hT hF in
theorem q_build {t : TypeId} {parts : Array (Nat × Operand)} {l : List (Nat × Value)} (hp : partsA F parts.toList = some l) (h : buildA T t l = some v) : Quiet P w M H a.eval (.build t parts) v := by
  obtain ⟨h1, h2⟩ := partsA_sound hF _ _ hp
  have e1 : l.map (·.1) = (parts.map fun (x : Nat × Operand) => (x.1, a.eval x.2)).toList.map (·.1) := by rw [h1]; simp
  have e2 : VRs M (l.map (·.2)) ((parts.map fun (x : Nat × Operand) => (x.1, a.eval x.2)).toList.map (·.2)) := by simpa using h2
  unfold buildA at h
  split at h
  · rename_i fs _ _ z ht
    split at h
    · rename_i pl hpl
      split at h
      · rename_i cs hcs
        cases h
        obtain ⟨info, d, hi, hu, hd, hs, hb, hz, hpz⟩ := hT.get ht
        have hzz := cells_VRs (plain_VR (M := M) hpz)
        obtain ⟨out', h3, h4⟩ := fillA_sound (fun i => pl[i]?) l _ _ _ _ hzz e1 e2 hcs
        obtain ⟨gs, rfl, hg⟩ := und_struct hd
        have h8 := sizesA_places hT gs.toList pl (by rw [hg]; exact hpl)
        have h9 : P.built t (parts.map fun (x : Nat × Operand) => (x.1, a.eval x.2)).toList = some out'.toArray := by
          unfold Program.built
          simp only [hi, hu, hz, h8]
          simpa using h4
        exact ⟨_, .agg h3, fun o ho w' _ => by simp only [execOp, ho, Sem.run_bind, run_build w' t _ _ h9, Result.andThen_ok]; rfl⟩
      · cases h
    · cases h
  · rename_i n e _ _ z ht
    split at h
    · rename_i i he
      split at h
      · rename_i cs hcs
        cases h
        obtain ⟨info, d, hi, hu, hd, hs, hb, hz, hpz⟩ := hT.get ht
        obtain ⟨info', d', hi', hu', hd', hs', hb', hz', hpz'⟩ := hT.get he
        have hzz := cells_VRs (plain_VR (M := M) hpz)
        obtain ⟨out', h3, h4⟩ := fillA_sound (fun k => some (k * i.size, i.size)) l _ _ _ _ hzz e1 e2 hcs
        have := und_array hd; subst this
        have h9 : P.built t (parts.map fun (x : Nat × Operand) => (x.1, a.eval x.2)).toList = some out'.toArray := by
          unfold Program.built
          simp only [hi, hu, hz, hi', hs']
          simpa using h4
        exact ⟨_, .agg h3, fun o ho w' _ => by simp only [execOp, ho, Sem.run_bind, run_build w' t _ _ h9, Result.andThen_ok]; rfl⟩
      · cases h
    · cases h
  · cases h
include hT hF in
theorem q_makeInterface {t : TypeId} {X : Operand} {x : Value} {i : TI} (ht : T t = some i) (hn : i.d ≠ .iface) (hx : arg F X = some x) : Quiet P w M H a.eval (.makeInterface t X) (.iface t x) := by
  refine ⟨_, .iface (arg_sound hF hx), fun o ho w' _ => ?_⟩
  obtain ⟨d, h1, h2, h3⟩ := hT.und ht w'
  cases d <;> simp [tdOf] at h3 <;> first | (exact absurd h3.symm hn) | simp [execOp, ho, Instr.makeInterface, h1]
include hF in
theorem q_makeFunc {fn : FuncId} {f c : Array Operand} {x y : List Value} (h1 : argsA F f.toList = some x) (h2 : argsA F c.toList = some y) : Quiet P w M H a.eval (.makeFunc (.func fn) f c) (.func (.func fn) x.toArray y.toArray) := by
  refine ⟨_, .func (argsA_sound hF _ _ h1) (argsA_sound hF _ _ h2), fun o ho w' _ => ?_⟩
  have e1 : f.map a.eval = (f.toList.map a.eval).toArray := by rw [← List.map_toArray, Array.toArray_toList]
  have e2 : c.map a.eval = (c.toList.map a.eval).toArray := by rw [← List.map_toArray, Array.toArray_toList]
  simp only [execOp, ho, Instr.makeFunc, e1, e2, Sem.run_bind, Sem.run_pure, Result.andThen_ok]
include hF in
theorem boundA_run {x : Option Operand} {d k cap : Nat} (h : boundA F x d = some k) (hk : k ≤ cap) (code : BoundsCode) (w : World) :
    (x = none ∧ k = d) ∨ ∃ X, x = some X ∧ (Instr.sliceBound (a.eval X) cap code).run P w = .ok k w := by
  unfold boundA at h
  split at h
  · cases h; exact .inl ⟨rfl, rfl⟩
  · rename_i X
    split at h
    · rename_i kk n hX
      split at h
      · rename_i h0
        cases h
        have hv := arg_sound hF hX
        generalize hz : a.eval X = x' at hv
        cases hv
        refine .inr ⟨X, rfl, ?_⟩
        rw [hz]
        have : 0 ≤ n ∧ n ≤ (cap : Int) := by omega
        simp [Instr.sliceBound, asIntOf, this]
      · cases h
    · cases h
include hF in
theorem bounds_run {lo hi : Option Operand} {d cap l h : Nat} (hl : boundA F lo 0 = some l) (hh : boundA F hi d = some h) (hlh : l ≤ h) (hc : h ≤ cap) (isS : Bool) (w : World) :
    (Instr.sliceBounds isS d cap (lo.map a.eval) (hi.map a.eval) none).run P w = .ok (l, h, cap) w := by
  rcases boundA_run (P := P) hF hh hc (if isS then .sliceAcap else .sliceAlen) w with ⟨rfl, rfl⟩ | ⟨X, rfl, hX⟩ <;>
  rcases boundA_run (P := P) hF hl hlh .sliceB w with ⟨rfl, rfl⟩ | ⟨Y, rfl, hY⟩ <;>
  simp [Instr.sliceBounds, *]
end
end Go.Proofs.YtgkicojmgokinaaGreatDoor.Ab

namespace Go.Proofs.YtgkicojmgokinaaGreatDoor.Ab
open Go Go.RowKit
set_option linter.unusedVariables false
set_option linter.unusedSimpArgs false
section
variable {P : Program} {T : Tab} (hT : TabOK P T) {lo : Nat} {M : Mp} {H : Heap} {w : World} (hR : Rel lo M H w) {F : Fr} {a : Act} (hF : FR M F a.tmps) {v : Value}
include hT hR hF in
theorem q_slice {t : TypeId} {X : Operand} {x : Value} {l h : Option Operand} (hx : arg F X = some x) (hs : sliceA T H F t x l h = some v) : Quiet P w M H a.eval (.slice t X l h none) v := by
  have hx' := arg_sound hF hx
  generalize hz : a.eval X = x' at hx'
  unfold sliceA at hs
  split at hs
  · rename_i s
    split at hs
    · rename_i _ _ _ ll hh ht hl hh'
      split at hs
      · rename_i hb
        cases hs; cases hx'
        refine ⟨_, plain_VR rfl, fun o ho w' _ => ?_⟩
        obtain ⟨d, h1, h2, h3⟩ := hT.und ht w'
        have := und_str h3; subst this
        have hbb := bounds_run (P := P) hF hl hh' hb.1 hb.2 false w'
        simp [execOp, ho, hz, Instr.sliceAt, h1, Instr.slice, hbb]
      · cases hs
    · cases hs
  · split at hs
    · rename_i e _ _ _ ht hl hh
      split at hs
      · rename_i i he
        cases hs; cases hx'
        refine ⟨_, plain_VR rfl, fun o ho w' _ => ?_⟩
        obtain ⟨d, h1, h2, h3⟩ := hT.und ht w'
        have := und_slice h3; subst this
        have hbb := bounds_run (P := P) hF hl hh (Nat.le_refl 0) (Nat.le_refl 0) true w'
        simp [execOp, ho, hz, Instr.sliceAt, h1, Instr.slice, hbb, hT.sizeOf he w']
      · cases hs
    · cases hs
  · rename_i p n z
    split at hs
    · rename_i e _ _ _ ll hh ht hl hh'
      split at hs
      · rename_i i he
        split at hs
        · rename_i hb
          cases hx' with
          | empt ad c =>
            split at hs
            · rename_i hlh
              cases hs
              have hl0 : ll = 0 := by omega
              have hh0 : hh = 0 := by omega
              subst hl0; subst hh0
              refine ⟨.slice (if c = 0 then some ad else some (ad.add (0 * i.size))) (0 - 0) (c - 0), by split <;> exact .empt _ _, fun o ho w' _ => ?_⟩
              obtain ⟨d, h1, h2, h3⟩ := hT.und ht w'
              have := und_slice h3; subst this
              have hbb := bounds_run (P := P) hF hl hh' (Nat.le_refl 0) (Nat.zero_le c) true w'
              simp only [execOp, ho, hz, Instr.sliceAt, h1, Instr.slice, hbb, hT.sizeOf he w', Sem.run_bind, Sem.run_pure, Result.andThen_ok, Option.map_some, Option.map_none]
            · rename_i hlh
              omega
          | @slice b off n z r s N c hM hn hN =>
            split at hs
            · rename_i hlh
              cases hs
              subst hlh
              refine ⟨.slice (if c = ll then some ⟨r, s + off, none⟩ else some (Addr.add ⟨r, s + off, none⟩ (ll * i.size))) (ll - ll) (c - ll), by rw [Nat.sub_self]; split <;> exact .empt _ _, fun o ho w' _ => ?_⟩
              obtain ⟨d, h1, h2, h3⟩ := hT.und ht w'
              have := und_slice h3; subst this
              have hbb := bounds_run (P := P) hF hl hh' hb.1 (by omega : ll ≤ c) true w'
              have hbb' : (Instr.sliceBounds true n c (l.map a.eval) (h.map a.eval) none).run P w' = .ok (ll, ll, c) w' := hbb
              simp only [execOp, ho, hz, Instr.sliceAt, h1, Instr.slice, hbb', hT.sizeOf he w', Sem.run_bind, Sem.run_pure, Result.andThen_ok, Option.map_some, Option.map_none]
            · rename_i hlh
              split at hs
              · rename_i hzi
                cases hs
                subst hzi
                have hcl : c ≠ ll := by omega
                refine ⟨.slice (some ⟨r, s + (off + ll * i.size), none⟩) (hh - ll) (c - ll), .slice hM (by omega) (by rw [← Nat.add_assoc, Nat.add_assoc (s + off), ← Nat.add_mul, show ll + (c - ll) = c by omega]; exact hN), fun o ho w' _ => ?_⟩
                obtain ⟨d, h1, h2, h3⟩ := hT.und ht w'
                have := und_slice h3; subst this
                have hbb := bounds_run (P := P) hF hl hh' hb.1 (by omega : hh ≤ c) true w'
                have hbb' : (Instr.sliceBounds true n c (l.map a.eval) (h.map a.eval) none).run P w' = .ok (ll, hh, c) w' := hbb
                simp only [execOp, ho, hz, Instr.sliceAt, h1, Instr.slice, hbb', hT.sizeOf he w', Sem.run_bind, Sem.run_pure, Result.andThen_ok, Option.map_some, Option.map_none, if_neg hcl, add_none, Nat.add_assoc]
              · cases hs
        · cases hs
      · cases hs
    · cases hs
  · rename_i p
    split at hs
    · rename_i n e _ _ _ ht
      split at hs
      · rename_i i ll hh he hl hh'
        split at hs
        · rename_i hb
          obtain ⟨hb1, hb2, hb3⟩ := hb
          cases hx' with
          | @ptr b off r s N hM =>
          obtain ⟨cs, hcs⟩ := Option.isSome_iff_exists.1 hb3
          obtain ⟨cs', _, _, hN, _⟩ := cellsAt_real (P := P) hR hcs hM
          simp only at hN
          split at hs
          · rename_i hlh
            cases hs
            subst hlh
            refine ⟨.slice (some (if n = ll then (⟨r, s + off, none⟩ : Addr) else Addr.add ⟨r, s + off, none⟩ (ll * i.size))) (ll - ll) (n - ll), by rw [Nat.sub_self]; exact .empt _ _, fun o ho w' _ => ?_⟩
            obtain ⟨d, h1, h2, h3⟩ := hT.und ht w'
            have := und_array h3; subst this
            have hbb := bounds_run (P := P) hF hl hh' hb1 hb2 false w'
            simp only [execOp, ho, hz, Instr.sliceAt, h1, hbb, hT.sizeOf he w', Instr.sureAddr, Sem.run_bind, Sem.run_pure, Result.andThen_ok, Option.map_some, Option.map_none]
          · rename_i hlh
            cases hs
            have hnl : n ≠ ll := by omega
            refine ⟨.slice (some ⟨r, s + (off + ll * i.size), none⟩) (hh - ll) (n - ll), .slice hM (by omega) (by rw [← Nat.add_assoc, Nat.add_assoc (s + off), ← Nat.add_mul, show ll + (n - ll) = n by omega]; exact hN), fun o ho w' _ => ?_⟩
            obtain ⟨d, h1, h2, h3⟩ := hT.und ht w'
            have := und_array h3; subst this
            have hbb := bounds_run (P := P) hF hl hh' hb1 hb2 false w'
            simp only [execOp, ho, hz, Instr.sliceAt, h1, hbb, hT.sizeOf he w', Instr.sureAddr, Sem.run_bind, Sem.run_pure, Result.andThen_ok, Option.map_some, Option.map_none, if_neg hnl, add_none, Nat.add_assoc]
        · cases hs
      · cases hs
    · cases hs
  · cases hs
theorem mostA_run : ∀ (l : List Value) (x v : Value) (mx : Bool) (w : World), mostA mx x l = some v → (l = [] → plain x = true) → plain v = true ∧ l.all plain = true ∧ plain x = true ∧ (l.foldlM (if mx then Builtin.max2 else Builtin.min2) x).run P w = .ok v w
  | [], x, v, mx, w, h, hp => by cases h; exact ⟨hp rfl, rfl, hp rfl, rfl⟩
  | y :: r, x, v, mx, w, h, hp => by
    unfold mostA at h
    split at h
    · rename_i heq; cases heq
    · rename_i k m k' n r' heq
      cases heq
      obtain ⟨h1, h2, h3, h4⟩ := mostA_run r _ v mx w h (fun _ => rfl)
      refine ⟨h1, by simp [h2]; rfl, rfl, ?_⟩
      cases mx with
      | true => simp only [if_true, List.foldlM_cons, Sem.run_bind, Builtin.max2, Sem.run_pure, Result.andThen_ok] at h4 ⊢; simpa using h4
      | false => simp only [Bool.false_eq_true, if_false, List.foldlM_cons, Sem.run_bind, Builtin.min2, Sem.run_pure, Result.andThen_ok] at h4 ⊢; simpa using h4
    · cases h
theorem plains_VRs {M : Mp} {xs ys : List Value} (h : xs.all plain = true) (r : VRs M xs ys) : ys = xs := plains_eq (fun _ _ => plain_eq) h r
include hT hF in
theorem q_builtin {b : Builtin} {args : Array Operand} {tys : Array TypeId} {l : List Value} (hl : argsA F args.toList = some l) (h : builtA T b tys.toList l = some v) : Quiet P w M H a.eval (.call ⟨.builtin b, args, tys⟩) v := by
  have hv := argsA_sound hF _ _ hl
  have e1 : args.map a.eval = (args.toList.map a.eval).toArray := by rw [← List.map_toArray, Array.toArray_toList]
  generalize args.toList.map a.eval = l' at hv e1
  unfold builtA at h
  split at h
  · split at h
    · rename_i t ts x xs htys
      have et : tys[0]? = some t := by rw [← Array.getElem?_toList, htys]; rfl
      cases hv with
      | @cons _ x' _ xs' hx hxs =>
      have hp : plain v = true := by
        unfold lenA at h
        (repeat' split at h) <;> first | (cases h; rfl) | cases h
      refine ⟨v, plain_VR hp, fun o ho w' _ => ?_⟩
      have key : (Builtin.len_ tys o.type (x' :: xs').toArray).run P w' = .ok v w' := by
        unfold lenA at h
        split at h
        · rename_i _ _ _ ht
          obtain ⟨d, h1, h2, h3⟩ := hT.und ht w'
          have := und_str h3; subst this
          split at h
          · cases h; cases hx; simp [Builtin.len_, et, h1, goInt]
          · cases h
        · rename_i n e _ _ _ ht
          obtain ⟨d, h1, h2, h3⟩ := hT.und ht w'
          have := und_array h3; subst this
          cases h; simp [Builtin.len_, et, h1, goInt]
        · rename_i e _ _ _ ht
          obtain ⟨d, h1, h2, h3⟩ := hT.und ht w'
          have := und_ptr h3; subst this
          split at h
          · rename_i n e' _ _ _ he
            obtain ⟨d', h4, h5, h6⟩ := hT.und he w'
            have := und_array h6; subst this
            cases h; simp [Builtin.len_, et, h1, h4, goInt]
          · cases h
        · rename_i e _ _ _ ht
          obtain ⟨d, h1, h2, h3⟩ := hT.und ht w'
          have := und_slice h3; subst this
          split at h
          · cases h; cases hx <;> simp [Builtin.len_, et, h1, goInt]
          · cases h
        · cases h
      simp only [execOp, ho, resolve, e1, invoke, builtin, Sem.run_bind, Sem.run_pure, Result.andThen_ok, key]
    · cases h
  · split at h
    · rename_i x r
      have := hv
      have hr : (r = [] → plain x = true) ∨ ¬ (r = [] → plain x = true) := Classical.em _
      rcases hr with hr | hr
      · obtain ⟨h1, h2, h3, h4⟩ := mostA_run (P := P) r x v true default h hr
        have e2 := plains_VRs (M := M) (xs := x :: r) (by simp [h2, h3]) hv
        subst e2
        refine ⟨v, plain_VR h1, fun o ho w' _ => ?_⟩
        have h5 := (mostA_run (P := P) r x v true w' h hr).2.2.2
        simp only [if_true] at h5
        simp only [execOp, ho, resolve, e1, invoke, builtin, Builtin.max_, Sem.run_bind, Sem.run_pure, Result.andThen_ok, h5]
      · have h0 : r = [] := Classical.byContradiction fun hc => hr fun he => absurd he hc
        subst h0
        cases h
        cases hv with
        | cons hx hxs =>
        cases hxs
        refine ⟨_, hx, fun o ho w' _ => ?_⟩
        simp only [execOp, ho, resolve, e1, invoke, builtin, Builtin.max_, List.foldlM_nil, Sem.run_bind, Sem.run_pure, Result.andThen_ok]
    · cases h
  · split at h
    · rename_i x r
      have hr : (r = [] → plain x = true) ∨ ¬ (r = [] → plain x = true) := Classical.em _
      rcases hr with hr | hr
      · obtain ⟨h1, h2, h3, h4⟩ := mostA_run (P := P) r x v false default h hr
        have e2 := plains_VRs (M := M) (xs := x :: r) (by simp [h2, h3]) hv
        subst e2
        refine ⟨v, plain_VR h1, fun o ho w' _ => ?_⟩
        have h5 := (mostA_run (P := P) r x v false w' h hr).2.2.2
        simp only [Bool.false_eq_true, if_false] at h5
        simp only [execOp, ho, resolve, e1, invoke, builtin, Builtin.min_, Sem.run_bind, Sem.run_pure, Result.andThen_ok, h5]
      · have h0 : r = [] := Classical.byContradiction fun hc => hr fun he => absurd he hc
        subst h0
        cases h
        cases hv with
        | cons hx hxs =>
        cases hxs
        refine ⟨_, hx, fun o ho w' _ => ?_⟩
        simp only [execOp, ho, resolve, e1, invoke, builtin, Builtin.min_, List.foldlM_nil, Sem.run_bind, Sem.run_pure, Result.andThen_ok]
    · cases h
  · cases h
include hT hR hF in
theorem evalQ_sound {op : Op} (h : evalQ T F H op = some v) : Quiet P w M H a.eval op v := by
  unfold evalQ at h
  split at h
  · exact q_move hF h
  · exact q_assign hF h
  · split at h
    · rename_i hc; exact q_pick hF hc h
    · cases h
  · split at h
    · rename_i hc; cases h; exact q_nilCheck hF hc
    · cases h
  · split at h
    · rename_i hx
      split at h
      · rename_i hy; exact q_bin hT hF hx hy h
      · cases h
    · cases h
  · split at h
    · rename_i hx; exact q_un hF hx h
    · cases h
  · split at h
    · rename_i hx; exact q_conv hT hF hx h
    · cases h
  · split at h
    · rename_i hx; exact q_fieldAddr hT hF hx h
    · cases h
  · split at h
    · rename_i hx
      split at h
      · rename_i ht
        split at h
        · rename_i hf; exact q_field hT hF ht hx hf h
        · cases h
      · cases h
    · cases h
  · split at h
    · rename_i hi
      split at h
      · rename_i hx; exact q_indexAddr hT hF hi hx h
      · cases h
    · cases h
  · split at h
    · rename_i hi
      split at h
      · rename_i hx; exact q_index hT hF hi hx h
      · cases h
    · cases h
  · split at h
    · rename_i hx; exact q_extract hF hx h
    · cases h
  · split at h
    · rename_i hx; exact q_load hT hR hF hx h
    · cases h
  · split at h
    · rename_i hp; exact q_build hT hF hp h
    · cases h
  · split at h
    · rename_i hx; exact q_slice hT hR hF hx h
    · cases h
  · split at h
    · cases h
    · rename_i i x hne ht hx
      cases h
      exact q_makeInterface hT hF ht (fun he => by cases i; simp at he; subst he; exact hne _ _ _ rfl) hx
    · cases h
  · split at h
    · rename_i h1
      split at h
      · rename_i h2; cases h; exact q_makeFunc hF h1 h2
      · cases h
    · cases h
  · split at h
    · rename_i hl; exact q_builtin hT hF hl h
    · cases h
  · cases h
end
end Go.Proofs.YtgkicojmgokinaaGreatDoor.Ab
