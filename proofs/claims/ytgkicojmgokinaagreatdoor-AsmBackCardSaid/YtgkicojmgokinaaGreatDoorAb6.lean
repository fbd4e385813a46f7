/- The abstract run, sixth part: slice expressions, len and its like; every operation that leaves the world alone, in one theorem. -/
import Derived.Test.YtgkicojmgokinaaGreatDoorAb5
namespace Go.Proofs.YtgkicojmgokinaaGreatDoor.Ab
open Go Go.RowKit
set_option linter.unusedVariables false
set_option linter.unusedSimpArgs false
section
variable {P : Program} {T : Tab} (hT : TabOK P T) {lo : Nat} {M : Mp} {H : Heap} {w : World} (hR : Rel lo M H w) {F : Fr} {a : Act} (hF : FR M F a.tmps) {v : Value}
include hT hR hF in
theorem q_slice {t : TypeId} {X : Operand} {x : Value} {l h : Option Operand} (hx : arg F X = some x) (hs : sliceA T H F t x l h = some v) : Quiet P w M H a.eval (.slice t X l h none) v := by
  have hx' := arg_sound hF hx
  generalize hz : a.eval X = x' at hx'
  unfold sliceA at hs
  split at hs
  · rename_i s
    split at hs
    · rename_i _ _ _ ll hh ht hl hh'
      split at hs
      · rename_i hb
        cases hs; cases hx'
        refine ⟨_, plain_VR rfl, fun o ho w' _ => ?_⟩
        obtain ⟨d, h1, h2, h3⟩ := hT.und ht w'
        have := und_str h3; subst this
        have hbb := bounds_run (P := P) hF hl hh' hb.1 hb.2 false w'
        simp [execOp, ho, hz, Instr.sliceAt, h1, Instr.slice, hbb]
      · cases hs
    · cases hs
  · split at hs
    · rename_i e _ _ _ ht hl hh
      split at hs
      · rename_i i he
        cases hs; cases hx'
        refine ⟨_, plain_VR rfl, fun o ho w' _ => ?_⟩
        obtain ⟨d, h1, h2, h3⟩ := hT.und ht w'
        have := und_slice h3; subst this
        have hbb := bounds_run (P := P) hF hl hh (Nat.le_refl 0) (Nat.le_refl 0) true w'
        simp [execOp, ho, hz, Instr.sliceAt, h1, Instr.slice, hbb, hT.sizeOf he w']
      · cases hs
    · cases hs
  · rename_i p n z
    split at hs
    · rename_i e _ _ _ ll hh ht hl hh'
      split at hs
      · rename_i i he
        split at hs
        · rename_i hb
          cases hx' with
          | empt ad c =>
            split at hs
            · rename_i hlh
              cases hs
              have hl0 : ll = 0 := by omega
              have hh0 : hh = 0 := by omega
              subst hl0; subst hh0
              refine ⟨.slice (if c = 0 then some ad else some (ad.add (0 * i.size))) (0 - 0) (c - 0), by split <;> exact .empt _ _, fun o ho w' _ => ?_⟩
              obtain ⟨d, h1, h2, h3⟩ := hT.und ht w'
              have := und_slice h3; subst this
              have hbb := bounds_run (P := P) hF hl hh' (Nat.le_refl 0) (Nat.zero_le c) true w'
              simp only [execOp, ho, hz, Instr.sliceAt, h1, Instr.slice, hbb, hT.sizeOf he w', Sem.run_bind, Sem.run_pure, Result.andThen_ok, Option.map_some, Option.map_none]
            · rename_i hlh
              omega
          | @slice b off n z r s N c hM hn hN =>
            split at hs
            · rename_i hlh
              cases hs
              subst hlh
              refine ⟨.slice (if c = ll then some ⟨r, s + off, none⟩ else some (Addr.add ⟨r, s + off, none⟩ (ll * i.size))) (ll - ll) (c - ll), by rw [Nat.sub_self]; split <;> exact .empt _ _, fun o ho w' _ => ?_⟩
              obtain ⟨d, h1, h2, h3⟩ := hT.und ht w'
              have := und_slice h3; subst this
              have hbb := bounds_run (P := P) hF hl hh' hb.1 (by omega : ll ≤ c) true w'
              have hbb' : (Instr.sliceBounds true n c (l.map a.eval) (h.map a.eval) none).run P w' = .ok (ll, ll, c) w' := hbb
              simp only [execOp, ho, hz, Instr.sliceAt, h1, Instr.slice, hbb', hT.sizeOf he w', Sem.run_bind, Sem.run_pure, Result.andThen_ok, Option.map_some, Option.map_none]
            · rename_i hlh
              split at hs
              · rename_i hzi
                cases hs
                subst hzi
                have hcl : c ≠ ll := by omega
                refine ⟨.slice (some ⟨r, s + (off + ll * i.size), none⟩) (hh - ll) (c - ll), .slice hM (by omega) (by rw [← Nat.add_assoc, Nat.add_assoc (s + off), ← Nat.add_mul, show ll + (c - ll) = c by omega]; exact hN), fun o ho w' _ => ?_⟩
                obtain ⟨d, h1, h2, h3⟩ := hT.und ht w'
                have := und_slice h3; subst this
                have hbb := bounds_run (P := P) hF hl hh' hb.1 (by omega : hh ≤ c) true w'
                have hbb' : (Instr.sliceBounds true n c (l.map a.eval) (h.map a.eval) none).run P w' = .ok (ll, hh, c) w' := hbb
                simp only [execOp, ho, hz, Instr.sliceAt, h1, Instr.slice, hbb', hT.sizeOf he w', Sem.run_bind, Sem.run_pure, Result.andThen_ok, Option.map_some, Option.map_none, if_neg hcl, add_none, Nat.add_assoc]
              · cases hs
        · cases hs
      · cases hs
    · cases hs
  · rename_i p
    split at hs
    · rename_i n e _ _ _ ht
      split at hs
      · rename_i i ll hh he hl hh'
        split at hs
        · rename_i hb
          obtain ⟨hb1, hb2, hb3⟩ := hb
          cases hx' with
          | @ptr b off r s N hM =>
          obtain ⟨cs, hcs⟩ := Option.isSome_iff_exists.1 hb3
          obtain ⟨cs', _, _, hN, _⟩ := cellsAt_real (P := P) hR hcs hM
          simp only at hN
          split at hs
          · rename_i hlh
            cases hs
            subst hlh
            refine ⟨.slice (some (if n = ll then (⟨r, s + off, none⟩ : Addr) else Addr.add ⟨r, s + off, none⟩ (ll * i.size))) (ll - ll) (n - ll), by rw [Nat.sub_self]; exact .empt _ _, fun o ho w' _ => ?_⟩
            obtain ⟨d, h1, h2, h3⟩ := hT.und ht w'
            have := und_array h3; subst this
            have hbb := bounds_run (P := P) hF hl hh' hb1 hb2 false w'
            simp only [execOp, ho, hz, Instr.sliceAt, h1, hbb, hT.sizeOf he w', Instr.sureAddr, Sem.run_bind, Sem.run_pure, Result.andThen_ok, Option.map_some, Option.map_none]
          · rename_i hlh
            cases hs
            have hnl : n ≠ ll := by omega
            refine ⟨.slice (some ⟨r, s + (off + ll * i.size), none⟩) (hh - ll) (n - ll), .slice hM (by omega) (by rw [← Nat.add_assoc, Nat.add_assoc (s + off), ← Nat.add_mul, show ll + (n - ll) = n by omega]; exact hN), fun o ho w' _ => ?_⟩
            obtain ⟨d, h1, h2, h3⟩ := hT.und ht w'
            have := und_array h3; subst this
            have hbb := bounds_run (P := P) hF hl hh' hb1 hb2 false w'
            simp only [execOp, ho, hz, Instr.sliceAt, h1, hbb, hT.sizeOf he w', Instr.sureAddr, Sem.run_bind, Sem.run_pure, Result.andThen_ok, Option.map_some, Option.map_none, if_neg hnl, add_none, Nat.add_assoc]
        · cases hs
      · cases hs
    · cases hs
  · cases hs
theorem mostA_run : ∀ (l : List Value) (x v : Value) (mx : Bool) (w : World), mostA mx x l = some v → (l = [] → plain x = true) → plain v = true ∧ l.all plain = true ∧ plain x = true ∧ (l.foldlM (if mx then Builtin.max2 else Builtin.min2) x).run P w = .ok v w
  | [], x, v, mx, w, h, hp => by cases h; exact ⟨hp rfl, rfl, hp rfl, rfl⟩
  | y :: r, x, v, mx, w, h, hp => by
    unfold mostA at h
    split at h
    · rename_i heq; cases heq
    · rename_i k m k' n r' heq
      cases heq
      obtain ⟨h1, h2, h3, h4⟩ := mostA_run r _ v mx w h (fun _ => rfl)
      refine ⟨h1, by simp [h2]; rfl, rfl, ?_⟩
      cases mx with
      | true => simp only [if_true, List.foldlM_cons, Sem.run_bind, Builtin.max2, Sem.run_pure, Result.andThen_ok] at h4 ⊢; simpa using h4
      | false => simp only [Bool.false_eq_true, if_false, List.foldlM_cons, Sem.run_bind, Builtin.min2, Sem.run_pure, Result.andThen_ok] at h4 ⊢; simpa using h4
    · cases h
theorem plains_VRs {M : Mp} {xs ys : List Value} (h : xs.all plain = true) (r : VRs M xs ys) : ys = xs := plains_eq (fun _ _ => plain_eq) h r
include hT hF in
theorem q_builtin {b : Builtin} {args : Array Operand} {tys : Array TypeId} {l : List Value} (hl : argsA F args.toList = some l) (h : builtA T b tys.toList l = some v) : Quiet P w M H a.eval (.call ⟨.builtin b, args, tys⟩) v := by
  have hv := argsA_sound hF _ _ hl
  have e1 : args.map a.eval = (args.toList.map a.eval).toArray := by rw [← List.map_toArray, Array.toArray_toList]
  generalize args.toList.map a.eval = l' at hv e1
  unfold builtA at h
  split at h
  · split at h
    · rename_i t ts x xs htys
      have et : tys[0]? = some t := by rw [← Array.getElem?_toList, htys]; rfl
      cases hv with
      | @cons _ x' _ xs' hx hxs =>
      have hp : plain v = true := by
        unfold lenA at h
        (repeat' split at h) <;> first | (cases h; rfl) | cases h
      refine ⟨v, plain_VR hp, fun o ho w' _ => ?_⟩
      have key : (Builtin.len_ tys o.type (x' :: xs').toArray).run P w' = .ok v w' := by
        unfold lenA at h
        split at h
        · rename_i _ _ _ ht
          obtain ⟨d, h1, h2, h3⟩ := hT.und ht w'
          have := und_str h3; subst this
          split at h
          · cases h; cases hx; simp [Builtin.len_, et, h1, goInt]
          · cases h
        · rename_i n e _ _ _ ht
          obtain ⟨d, h1, h2, h3⟩ := hT.und ht w'
          have := und_array h3; subst this
          cases h; simp [Builtin.len_, et, h1, goInt]
        · rename_i e _ _ _ ht
          obtain ⟨d, h1, h2, h3⟩ := hT.und ht w'
          have := und_ptr h3; subst this
          split at h
          · rename_i n e' _ _ _ he
            obtain ⟨d', h4, h5, h6⟩ := hT.und he w'
            have := und_array h6; subst this
            cases h; simp [Builtin.len_, et, h1, h4, goInt]
          · cases h
        · rename_i e _ _ _ ht
          obtain ⟨d, h1, h2, h3⟩ := hT.und ht w'
          have := und_slice h3; subst this
          split at h
          · cases h; cases hx <;> simp [Builtin.len_, et, h1, goInt]
          · cases h
        · cases h
      simp only [execOp, ho, resolve, e1, invoke, builtin, Sem.run_bind, Sem.run_pure, Result.andThen_ok, key]
    · cases h
  · split at h
    · rename_i x r
      have := hv
      have hr : (r = [] → plain x = true) ∨ ¬ (r = [] → plain x = true) := Classical.em _
      rcases hr with hr | hr
      · obtain ⟨h1, h2, h3, h4⟩ := mostA_run (P := P) r x v true default h hr
        have e2 := plains_VRs (M := M) (xs := x :: r) (by simp [h2, h3]) hv
        subst e2
        refine ⟨v, plain_VR h1, fun o ho w' _ => ?_⟩
        have h5 := (mostA_run (P := P) r x v true w' h hr).2.2.2
        simp only [if_true] at h5
        simp only [execOp, ho, resolve, e1, invoke, builtin, Builtin.max_, Sem.run_bind, Sem.run_pure, Result.andThen_ok, h5]
      · have h0 : r = [] := Classical.byContradiction fun hc => hr fun he => absurd he hc
        subst h0
        cases h
        cases hv with
        | cons hx hxs =>
        cases hxs
        refine ⟨_, hx, fun o ho w' _ => ?_⟩
        simp only [execOp, ho, resolve, e1, invoke, builtin, Builtin.max_, List.foldlM_nil, Sem.run_bind, Sem.run_pure, Result.andThen_ok]
    · cases h
  · split at h
    · rename_i x r
      have hr : (r = [] → plain x = true) ∨ ¬ (r = [] → plain x = true) := Classical.em _
      rcases hr with hr | hr
      · obtain ⟨h1, h2, h3, h4⟩ := mostA_run (P := P) r x v false default h hr
        have e2 := plains_VRs (M := M) (xs := x :: r) (by simp [h2, h3]) hv
        subst e2
        refine ⟨v, plain_VR h1, fun o ho w' _ => ?_⟩
        have h5 := (mostA_run (P := P) r x v false w' h hr).2.2.2
        simp only [Bool.false_eq_true, if_false] at h5
        simp only [execOp, ho, resolve, e1, invoke, builtin, Builtin.min_, Sem.run_bind, Sem.run_pure, Result.andThen_ok, h5]
      · have h0 : r = [] := Classical.byContradiction fun hc => hr fun he => absurd he hc
        subst h0
        cases h
        cases hv with
        | cons hx hxs =>
        cases hxs
        refine ⟨_, hx, fun o ho w' _ => ?_⟩
        simp only [execOp, ho, resolve, e1, invoke, builtin, Builtin.min_, List.foldlM_nil, Sem.run_bind, Sem.run_pure, Result.andThen_ok]
    · cases h
  · cases h
include hT hR hF in
/-- Every operation that leaves the world alone. -/
theorem evalQ_sound {op : Op} (h : evalQ T F H op = some v) : Quiet P w M H a.eval op v := by
  unfold evalQ at h
  split at h
  · exact q_move hF h
  · exact q_assign hF h
  · split at h
    · rename_i hc; exact q_pick hF hc h
    · cases h
  · split at h
    · rename_i hc; cases h; exact q_nilCheck hF hc
    · cases h
  · split at h
    · rename_i hx
      split at h
      · rename_i hy; exact q_bin hT hF hx hy h
      · cases h
    · cases h
  · split at h
    · rename_i hx; exact q_un hF hx h
    · cases h
  · split at h
    · rename_i hx; exact q_conv hT hF hx h
    · cases h
  · split at h
    · rename_i hx; exact q_fieldAddr hT hF hx h
    · cases h
  · split at h
    · rename_i hx
      split at h
      · rename_i ht
        split at h
        · rename_i hf; exact q_field hT hF ht hx hf h
        · cases h
      · cases h
    · cases h
  · split at h
    · rename_i hi
      split at h
      · rename_i hx; exact q_indexAddr hT hF hi hx h
      · cases h
    · cases h
  · split at h
    · rename_i hi
      split at h
      · rename_i hx; exact q_index hT hF hi hx h
      · cases h
    · cases h
  · split at h
    · rename_i hx; exact q_extract hF hx h
    · cases h
  · split at h
    · rename_i hx; exact q_load hT hR hF hx h
    · cases h
  · split at h
    · rename_i hp; exact q_build hT hF hp h
    · cases h
  · split at h
    · rename_i hx; exact q_slice hT hR hF hx h
    · cases h
  · split at h
    · cases h
    · rename_i i x hne ht hx
      cases h
      exact q_makeInterface hT hF ht (fun he => by cases i; simp at he; subst he; exact hne _ _ _ rfl) hx
    · cases h
  · split at h
    · rename_i h1
      split at h
      · rename_i h2; cases h; exact q_makeFunc hF h1 h2
      · cases h
    · cases h
  · split at h
    · rename_i hl; exact q_builtin hT hF hl h
    · cases h
  · cases h
end
end Go.Proofs.YtgkicojmgokinaaGreatDoor.Ab
