/- Trimmed: Ab9 -/
import Derived.Test.YtgkicojmgokinaaGreatDoorAb8
import Derived.Test.YtgkicojmgokinaaGreatDoorAb6h
namespace Go.Proofs.YtgkicojmgokinaaGreatDoor.Ab
open Go Go.RowKit
set_option linter.unusedVariables false
set_option linter.unusedSimpArgs false
section
variable {P : Program} {T : Tab} (hT : TabOK P T) {lo : Nat} {M : Mp} {H : Heap} {w : World} (hR : Rel lo M H w) {F : Fr} {a : Act} (hF : FR M F a.tmps) {v : Value} {H' : Heap}
include hR in
theorem srcA_sound {z : Nat} {x x' : Value} {cs : List Value} {n : Nat} (hx : VR M x x') (h : srcA H z x = some (cs, n)) :
    (n = 0 ∧ cs = [] ∧ (x' = .slice none 0 0 ∨ ∃ ad c, x' = .slice (some ad) 0 c)) ∨
    (0 < n ∧ ∃ r o c cs', x' = .slice (some ⟨r, o, none⟩) n c ∧ VRs M cs cs' ∧ cs'.length = n * z ∧ ∀ j u, cs'[j]? = some u → w.cell? ((⟨r, o, none⟩ : Addr).add j) = some u) := by
  unfold srcA at h
  split at h
  · cases h; cases hx; exact .inl ⟨rfl, rfl, .inl rfl⟩
  · rename_i p m z'
    split at h
    · rename_i h0
      cases h
      subst h0
      refine .inl ⟨rfl, rfl, .inr ?_⟩
      cases hx <;> exact ⟨_, _, rfl⟩
    · rename_i h0
      split at h
      · rename_i hz
        split at h
        · rename_i cs0 hcs
          cases h
          cases hx with
          | empt => exact absurd rfl h0
          | @slice b o n z r s N c hM h1 h2 =>
            obtain ⟨cs', k1, k2, _, k3⟩ := cellsAt_cells hR hcs hM
            exact .inr ⟨Nat.pos_of_ne_zero h0, r, s + o, c, cs', rfl, k1, k2, k3 w (Told.refl _ _ _)⟩
        · cases h
      · cases h
  · rename_i z' xs _ m
    split at h
    · rename_i hz
      cases h
      subst hz
      rcases gs_inv hx with ⟨rfl, rfl, rfl⟩ | ⟨rfl, rfl, ad, c, rfl⟩ | ⟨ys, r, o, j, c, f1, f2, f3, f4, f5, rfl⟩
      · exact .inl ⟨rfl, rfl, .inl rfl⟩
      · exact .inl ⟨rfl, rfl, .inr ⟨_, _, rfl⟩⟩
      · rcases Nat.eq_zero_or_pos n with rfl | hp
        · rw [Nat.zero_mul] at f4
          exact .inl ⟨rfl, List.eq_nil_of_length_eq_zero f4, .inr ⟨_, _, rfl⟩⟩
        · have hl : ((ys.drop j).take (n * z')).length = n * z' := by simp; omega
          obtain ⟨cs, t, f, h1, h2, h3, _⟩ := (hR.froz _ _ _ f1).1
          refine .inr ⟨hp, r, o + j, c, _, rfl, f5, hl, fun i u hi => ?_⟩
          have hin : i < n * z' := by rw [← hl]; exact (List.getElem?_eq_some_iff.1 hi).1
          rw [List.getElem?_take_of_lt hin, List.getElem?_drop, ← h3, List.getElem?_take_of_lt (by omega), List.getElem?_drop] at hi
          rw [add_none]
          simp only [World.cell?, h1]
          rw [← hi]; simp [Nat.add_assoc]
    · cases h
  · cases h
theorem Rel.move {lo : Nat} {M : Mp} {H : Heap} {w : World} (h : Rel lo M H w) {i : Nat} {b : Blk} {q : Pl} (hlo : lo ≤ i) (hb : H[i]? = some (some b)) (hM : M.pl[i]? = some q) : Rel lo (M.add q) (H.set i none ++ [some b]) w := by
  have hil : i < H.length := (List.getElem?_eq_some_iff.1 hb).1
  have g : ∀ (k : Nat) (x : Blk), (H.set i none ++ [some b])[k]? = some (some x) → (k ≠ i ∧ k < H.length ∧ H[k]? = some (some x)) ∨ (k = H.length ∧ x = b) := by
    intro k x e
    rcases getElem?_snoc _ _ _ _ e with ⟨hk, e⟩ | ⟨hk, e⟩
    · by_cases hki : i = k
      · subst hki; rw [List.getElem?_set] at e; simp at e
      · rw [List.getElem?_set_ne hki] at e; exact .inl ⟨fun h => hki h.symm, by simpa using hk, e⟩
    · cases e; exact .inr ⟨by simpa using hk, rfl⟩
  have gM : ∀ (k : Nat) (p : Pl), (M.add q).pl[k]? = some p → (k < H.length ∧ M.pl[k]? = some p) ∨ (k = H.length ∧ p = q) := by
    intro k p e
    rcases getElem?_snoc _ _ _ _ e with ⟨hk, e⟩ | ⟨hk, e⟩
    · exact .inl ⟨by rw [← h.len]; exact hk, e⟩
    · exact .inr ⟨by rw [← h.len]; exact hk, e⟩
  refine ⟨by simp [h.len, Mp.add_pl], fun k p e => ?_, fun k x e => ?_, fun k p hk e => ?_, fun k j b1 b2 p p' hkj e1 e2 e3 e4 hl => ?_, fun r o ys e => let ⟨f1, f2⟩ := h.froz r o ys e; ⟨f1, fun k p hk e => (gM k p e).elim (fun h => f2 k p hk h.2) (fun h => h.2 ▸ f2 i _ hlo hM)⟩, h.gl⟩
  · rcases gM k p e with ⟨_, e⟩ | ⟨_, rfl⟩
    · exact h.dom k p e
    · exact h.dom i _ hM
  · rcases g k x e with ⟨hki, hkl, e⟩ | ⟨rfl, rfl⟩
    · obtain ⟨r, s, cs, t, fz, h1, h2, h2', h3, h4, h5⟩ := h.blk k x e
      exact ⟨r, s, cs, t, fz, (Le.add _ _).at_ _ _ h1, h2, h2', h3, h4.le (Le.add _ _), fun p o hp => let ⟨s', N', k1, k2⟩ := h5 p o hp; ⟨s', N', (Le.add _ _).at_ _ _ k1, k2⟩⟩
    · obtain ⟨r, s, cs, t, fz, h1, h2, h2', h3, h4, h5⟩ := h.blk i x hb
      rw [h1] at hM; cases hM
      exact ⟨r, s, cs, t, fz, Mp.add_get h.len, h2, fun _ => h2' hlo, h3, h4.le (Le.add _ _), fun p o hp => let ⟨s', N', k1, k2⟩ := h5 p o hp; ⟨s', N', (Le.add _ _).at_ _ _ k1, k2⟩⟩
  · rcases gM k p e with ⟨_, e⟩ | ⟨_, rfl⟩
    · exact h.own k p hk e
    · exact h.own i _ hlo hM
  · rcases g k b1 e1 with ⟨hki, hkl, f1⟩ | ⟨hk1, hk2⟩ <;> rcases g j b2 e2 with ⟨hji, hjl, f2⟩ | ⟨hj1, hj2⟩ <;> rcases gM _ _ e3 with ⟨h3, f3⟩ | ⟨h3, h3'⟩ <;> rcases gM _ _ e4 with ⟨h4, f4⟩ | ⟨h4, h4'⟩ <;> first
      | omega
      | exact h.inj k j b1 b2 p p' hkj f1 f2 f3 f4 hl
      | (rw [h4']; exact h.inj k i b1 _ p _ hki f1 hb f3 hM (.inr hlo))
      | (rw [h3']; exact h.inj i j _ b2 _ p' (fun e => hji e.symm) hb f2 hM f4 (.inl hlo))
theorem run_append_zero (w : World) {t ty e : TypeId} {k : Nat} (hu : P.underlying t = some (.slice e)) (hs : (Go.sizeOf e).run P w = .ok k w) {s x : Value}
    (hx : x = .slice none 0 0 ∨ ∃ ad c, x = .slice (some ad) 0 c) (hss : s = .slice none 0 0 ∨ ∃ ad m c, s = .slice (some ad) m c ∧ m ≤ c) :
    (Builtin.append_ #[t, t] ty #[s, x]).run P w = .ok s w := by
  rcases hx with rfl | ⟨ad, c, rfl⟩ <;> rcases hss with rfl | ⟨bd, m, c', rfl, hm⟩ <;>
  simp [Builtin.append_, run_underlying hu, hs, Builtin.lenOf, Builtin.firstCells, loadCells, loadCellsFrom, storeCells, *]
theorem zeroCells_length (z : Array Value) (n : Nat) : (Builtin.zeroCells z n).size = n * z.size := by simp [Builtin.zeroCells]
include hT hR in
theorem e_append {op : Op} {t : TypeId} {s x s' x' : Value} (hs : VR M s s') (hx : VR M x x') (h : appendA T lo H t s x = some (v, H'))
    (hop : ∀ o : Oper, o.op = op → ∀ nx w', (∃ rv, nx = Next.value rv ∧ (Builtin.append_ #[t, t] o.type #[s', x']).run P w = .ok rv w') → (execOp a.eval o).run P w = .ok nx w') :
    Effect P lo M H w a.eval op v H' := by
  unfold appendA at h
  split at h
  · rename_i e _ _ _ ht
    split at h
    · rename_i i he
      split at h
      · rename_i hsz
        obtain ⟨hsz, hzl⟩ := hsz
        obtain ⟨info, d, h1, h2, h3, h4, h5, h6, h7⟩ := hT.get he
        obtain ⟨info', d', h1', h2', h3', h4', h5', h6', h7'⟩ := hT.get ht
        have := und_slice h3'; subst this
        split at h
        · rename_i cs n hsrc
          have hsrc' := srcA_sound hR hx hsrc
          split at h
          · cases hs
            split at h
            · rename_i h0
              cases h
              rcases hsrc' with ⟨_, _, hx0⟩ | ⟨hp, _⟩
              · exact ⟨M, _, w, .value (.slice none 0 0), fun o ho => hop o ho _ _ ⟨_, rfl, run_append_zero w h2' (hT.sizeOf he w) hx0 (.inl rfl)⟩, .inl rfl, .nils, Ext.refl _ _ _, hR, Keep.refl _ _ _⟩
              · omega
            · rename_i h0
              split at h
              · rename_i hb
                cases h
                rcases hsrc' with ⟨h00, _⟩ | ⟨hp, r, o, c, cs', rfl, k1, k2, k3⟩
                · exact absurd h00 h0
                · have hz := cells_VRs (plain_VR (M := M) h7)
                  have hrun := fun ty => run_append_nil (P := P) w t ty e info i.zero h2' h1 h6 ⟨r, o, none⟩ n c cs' (by rw [h4]; exact k2) k3 hp (by omega) (by rw [h5]; omega)
                  generalize hcap : grownCap w n 0 e = cap at hrun
                  have hcapn : n ≤ cap := by rw [← hcap]; simp [grownCap, Question.cut]
                  have e1 : (cs'.toArray ++ Builtin.zeroCells i.zero.cells (cap - n)) = (cs' ++ (Builtin.zeroCells i.zero.cells (cap - n)).toList).toArray := by simp
                  rw [e1] at hrun
                  have hzs : i.zero.cells.size = i.size := by rw [← Array.length_toList]; exact hzl
                  have hlen : (cs' ++ (Builtin.zeroCells i.zero.cells (cap - n)).toList).length = cap * i.size := by
                    rw [List.length_append, k2, Array.length_toList, zeroCells_length, hzs, ← Nat.add_mul]; congr 1; omega
                  have hR2 : Rel lo M H w.drew := hR.drew _
                  obtain ⟨q1, q2, q3⟩ := hR2.new (cs := cs' ++ (Builtin.zeroCells i.zero.cells (cap - n)).toList) (b := ⟨cs, e, none⟩) (by simp only; rw [k1.length, List.length_append]; omega)
                    (by simp only; rw [k1.length, List.take_left]; exact k1) rfl
                  refine ⟨_, _, _, .value (.slice (some ⟨w.heap.size, 0, none⟩) n cap), fun o ho => hop o ho _ _ ⟨_, rfl, hrun _⟩, .inl rfl, .slice (r := w.heap.size) (s := 0) (N := (cs' ++ (Builtin.zeroCells i.zero.cells (cap - n)).toList).length) ?_ hcapn (by rw [hlen]; omega), ⟨q2.le, q2.new, q2.newfz⟩, q1, ?_⟩
                  · show (M.pl ++ [(w.heap.size, _)])[H.length]? = _
                    rw [← hR.len]; simp
                  · exact ⟨q3.os, q3.tape, q3.output, q3.size, q3.block⟩
              · cases h
          · rename_i p m z
            split at h
            · rename_i h0
              cases h
              rcases hsrc' with ⟨_, _, hx0⟩ | ⟨hp, _⟩
              · refine ⟨M, s', w, .value s', fun o ho => hop o ho _ _ ⟨_, rfl, run_append_zero w h2' (hT.sizeOf he w) hx0 (.inr ?_)⟩, .inl rfl, hs, Ext.refl _ _ _, hR, Keep.refl _ _ _⟩
                cases hs
                · exact ⟨_, _, _, rfl, ‹_›⟩
                · exact ⟨_, _, _, rfl, Nat.zero_le _⟩
              · omega
            · rename_i h0
              split at h
              · rename_i b hb
                split at h
                · rename_i hh
                  obtain ⟨g1, g2, g3, g4, g5, g6, g7, g8⟩ := hh
                  cases h
                  rcases hsrc' with ⟨h00, _⟩ | ⟨hp, r, o, c, cs', rfl, k1, k2, k3⟩
                  · exact absurd h00 h0
                  · cases hs with
                    | empt => omega
                    | @slice bk off _ _ rr sb N cc hM hn1 hn2 =>
                    simp only at hb g1 g2
                    subst g2; subst g3; subst g5
                    obtain ⟨r', cur, u1, u2, u3, u4⟩ := hR.at_ g1 hb
                    rw [u1] at hM; cases hM
                    rw [Nat.add_zero] at hn2 hop
                    have hkl := k1.length
                    by_cases hroom : m + n ≤ cc
                    · -- in place
                      have hfit : m * info.size + cs'.length ≤ cur.toArray.size := by
                        rw [k2, h4, ← Nat.add_mul]
                        have := Nat.mul_le_mul_right i.size hroom
                        simp; omega
                      have hrun := fun ty => run_append_room (P := P) w t ty _ info h2' h1 rr m cc cur.toArray u2 ⟨r, o, none⟩ n c cs' (by rw [h4]; exact k2) k3 (one_VRs k1 g6) hroom hfit
                      simp only [h4] at hrun
                      have hl2 : (cur.take (m * i.size) ++ cs' ++ cur.drop (m * i.size + cs'.length)).length = cur.length := by
                        simp only [List.length_append, List.length_take, List.length_drop]
                        simp [h4] at hfit; omega
                      have hbl : (b.cells ++ cs).length = m * i.size + n * i.size := by rw [List.length_append, g4, hkl, k2]
                      have hfit' : m * i.size + n * i.size ≤ cur.length := by rw [k2, h4] at hfit; simpa using hfit
                      have hvr : VRs M (b.cells ++ cs) ((cur.take (m * i.size) ++ cs' ++ cur.drop (m * i.size + cs'.length)).take (b.cells ++ cs).length) := by
                        rw [hbl, List.take_left' (by rw [List.length_append, List.length_take, k2]; omega)]
                        rw [g4] at u4
                        exact u4.append k1
                      obtain ⟨q1, q2⟩ := hR.write (b' := ⟨b.cells ++ cs, b.elem, none⟩) g1 hb u1 u2 hl2 rfl rfl (by simp only; rw [hl2, hbl]; exact hfit') hvr
                      have hbkl : bk < H.length := (List.getElem?_eq_some_iff.1 hb).1
                      have q3 := q1.move (i := bk) g1 (by rw [List.getElem?_set_self hbkl]) u1
                      rw [List.set_set] at q3
                      refine ⟨_, _, _, .value (.slice (some ⟨rr, 0, none⟩) (m + n) cc), fun o ho => hop o ho _ _ ⟨_, rfl, hrun _⟩, .inl rfl, .slice (r := rr) (s := 0) (N := cur.length) ?_ hroom (by omega), ⟨Le.add _ _, fun k p hk e => ?_, fun _ _ _ h => .inl h⟩, q3, q2⟩
                      · exact Mp.add_get hR.len
                      · rcases getElem?_snoc _ _ _ _ e with ⟨h1, _⟩ | ⟨_, rfl⟩
                        · omega
                        · exact .inr ⟨bk, _, g1, u1, rfl⟩
                    · -- a new one
                      have hold : cellsAt H bk 0 (m * i.size) = some b.cells := by
                        simp only [cellsAt, hb, Nat.zero_add, g4, Nat.le_refl, if_true, List.drop_zero]
                        rw [← g4, List.take_length]
                      obtain ⟨olds, o1, o2, _, o3'⟩ := cellsAt_cells hR hold u1
                      have o3 := o3' w (Told.refl _ _ _)
                      have hgrow : cc < m + n := by omega
                      have hfit2 := growslice_fits hgrow g7
                      have hrun := fun ty => run_append_grow (P := P) w t ty _ info i.zero h2' h1 h6 ⟨rr, 0, none⟩ m cc olds (by rw [h4]; exact o2) o3 ⟨r, o, none⟩ n c cs' (by rw [h4]; exact k2) k3 hgrow (by omega) (by rw [h5]; exact hfit2)
                      generalize hcap : grownCap w (m + n) cc b.elem = cap at hrun
                      have hcapn : m + n ≤ cap := by rw [← hcap]; simp [grownCap, Question.cut]
                      have e1 : (olds.toArray ++ cs'.toArray ++ Builtin.zeroCells i.zero.cells (cap - (m + n))) = (olds ++ cs' ++ (Builtin.zeroCells i.zero.cells (cap - (m + n))).toList).toArray := by simp
                      rw [e1] at hrun
                      have hzs : i.zero.cells.size = i.size := by rw [← Array.length_toList]; exact hzl
                      have hlen : (olds ++ cs' ++ (Builtin.zeroCells i.zero.cells (cap - (m + n))).toList).length = cap * i.size := by
                        rw [List.length_append, List.length_append, o2, k2, Array.length_toList, zeroCells_length, hzs, ← Nat.add_mul, ← Nat.add_mul]; congr 1; omega
                      have hR2 : Rel lo M H w.drew := hR.drew _
                      have hbl : (b.cells ++ cs).length = (olds ++ cs').length := by rw [List.length_append, List.length_append, g4, hkl, o2]
                      obtain ⟨q1, q2, q3⟩ := hR2.new (cs := olds ++ cs' ++ (Builtin.zeroCells i.zero.cells (cap - (m + n))).toList) (b := ⟨b.cells ++ cs, b.elem, none⟩) (by simp only; rw [hbl, List.length_append (as := olds ++ cs')]; omega)
                        (by simp only; rw [hbl, List.take_left]; exact o1.append k1) rfl
                      have hbkl : bk < H.length := (List.getElem?_eq_some_iff.1 hb).1
                      have q4 := q1.kill bk
                      rw [List.set_append_left _ _ hbkl] at q4
                      refine ⟨_, _, _, .value (.slice (some ⟨w.heap.size, 0, none⟩) (m + n) cap), fun o ho => hop o ho _ _ ⟨_, rfl, hrun _⟩, .inl rfl, .slice (r := w.heap.size) (s := 0) (N := (olds ++ cs' ++ (Builtin.zeroCells i.zero.cells (cap - (m + n))).toList).length) ?_ hcapn (by rw [hlen]; omega), ⟨q2.le, q2.new, q2.newfz⟩, q4, ?_⟩
                      · show (M.pl ++ [(w.heap.size, _)])[H.length]? = _
                        rw [← hR.len]; simp
                      · exact ⟨q3.os, q3.tape, q3.output, q3.size, q3.block⟩
                · cases h
              · cases h
          · cases h
        · cases h
      · cases h
    · cases h
  · cases h
theorem run_copy_zero (w : World) {t ty e : TypeId} {tys : Array TypeId} {k : Nat} (ht : tys[0]? = some t) (hu : P.underlying t = some (.slice e)) (hs : (Go.sizeOf e).run P w = .ok k w) {d x : Value} {ad ax : Option Addr} {m c n c' : Nat}
    (hd : d = .slice ad m c) (hx : x = .slice ax n c') (h0 : Nat.min n m = 0) : (Builtin.copy_ tys ty #[d, x]).run P w = .ok (.int .i64 0) w := by
  subst hd; subst hx
  cases ax <;> cases ad <;> simp [Builtin.copy_, ht, run_underlying hu, hs, Builtin.lenOf, h0, Builtin.firstCells, loadCells, loadCellsFrom, storeCells, goInt]
theorem VR.isSlice {M : Mp} {p : Option Addr} {n z : Nat} {x : Value} (h : VR M (.slice p n z) x) : ∃ ad c, x = .slice ad n c := by
  cases h <;> exact ⟨_, _, rfl⟩
include hT hR in
theorem e_copy {op : Op} {t : TypeId} {tys : Array TypeId} {d x d' x' : Value} (hty : tys[0]? = some t) (hd : VR M d d') (hx : VR M x x') (h : copyA T lo H t d x = some (v, H'))
    (hop : ∀ o : Oper, o.op = op → ∀ nx w', (∃ rv, nx = Next.value rv ∧ (Builtin.copy_ tys o.type #[d', x']).run P w = .ok rv w') → (execOp a.eval o).run P w = .ok nx w') :
    Effect P lo M H w a.eval op v H' := by
  have zero : ∀ {e : TypeId} {k : Nat}, P.underlying t = some (.slice e) → (Go.sizeOf e).run P w = .ok k w → ∀ {ad ax : Option Addr} {m c n c' : Nat}, d' = .slice ad m c → x' = .slice ax n c' → Nat.min n m = 0 →
      Effect P lo M H w a.eval op (.int .i64 0) H := by
    intro e k hu hs ad ax m c n c' e1 e2 e3
    exact ⟨M, _, w, .value (.int .i64 0), fun o ho => hop o ho _ _ ⟨_, rfl, run_copy_zero w hty hu hs e1 e2 e3⟩, .inl rfl, .int _ _, Ext.refl _ _ _, hR, Keep.refl _ _ _⟩
  unfold copyA at h
  split at h
  · rename_i e _ _ _ ht
    obtain ⟨info', dd, h1', h2', h3', h4', h5', h6', h7'⟩ := hT.get ht
    have := und_slice h3'; subst this
    split at h
    · rename_i i p dn z he
      obtain ⟨d1, dc, hd1⟩ := hd.isSlice
      split at h
      · cases h
        obtain ⟨x1, xc, hx1⟩ := hx.isSlice
        exact zero h2' (hT.sizeOf he w) hd1 hx1 (Nat.zero_min _)
      · rename_i q sn z'
        obtain ⟨x1, xc, hx1⟩ := hx.isSlice
        split at h
        · rename_i h0
          cases h
          exact zero h2' (hT.sizeOf he w) hd1 hx1 h0
        · rename_i h0
          split at h
          · rename_i cs b hcs hb
            split at h
            · rename_i hh
              obtain ⟨g1, g2, g3, g4, g5⟩ := hh
              cases h
              cases hd with
              | empt => exact absurd (Nat.min_zero _) h0
              | @slice bk off _ _ rr sb N cc hM hn1 hn2 =>
              cases hx with
              | empt => exact absurd (Nat.zero_min _) h0
              | @slice bq oq _ _ rq sq Nq cq hMq hq1 hq2 =>
              simp only at hb g1 g4 hcs
              obtain ⟨cs', k1, k2, k3, k4⟩ := cellsAt_real (P := P) hR hcs hMq
              have hld := k4 w (Told.refl _ _ _)
              obtain ⟨r', cur, u1, u2, u3, u4⟩ := hR.at_ g1 hb
              rw [u1] at hM; cases hM
              rw [Nat.zero_add] at hop
              have hkl := k1.length
              have hst := run_storeCells_at P rr off b.elem cs' 0 cur.toArray w u2 (by rw [k2]; simp; omega) (one_VRs k1 g5)
              simp only [Nat.add_zero] at hst
              have hl2 : (cur.take off ++ cs' ++ cur.drop (off + Nat.min sn dn * i.size)).length = cur.length := by
                simp only [List.length_append, List.length_take, List.length_drop, k2]; omega
              have hbl : (b.cells.take off ++ cs ++ b.cells.drop (off + Nat.min sn dn * i.size)).length = b.cells.length := by
                simp only [List.length_append, List.length_take, List.length_drop, hkl, k2]; omega
              have hvr : VRs M (b.cells.take off ++ cs ++ b.cells.drop (off + Nat.min sn dn * i.size)) ((cur.take off ++ cs' ++ cur.drop (off + Nat.min sn dn * i.size)).take (b.cells.take off ++ cs ++ b.cells.drop (off + Nat.min sn dn * i.size)).length) := by
                rw [hbl]
                have e : (cur.take off ++ cs' ++ cur.drop (off + Nat.min sn dn * i.size)).take b.cells.length = (cur.take b.cells.length).take off ++ cs' ++ (cur.take b.cells.length).drop (off + Nat.min sn dn * i.size) := by
                  rw [List.take_take, Nat.min_eq_left (by omega), List.drop_take, List.append_assoc, List.append_assoc, List.take_append, List.take_append]
                  have l1 : (cur.take off).length = off := by rw [List.length_take]; omega
                  rw [l1, List.take_of_length_le (by rw [l1]; omega), List.take_of_length_le (l := cs') (by rw [k2]; omega), k2]
                  congr 3; omega
                rw [e]
                exact ((u4.take off).append k1).append (u4.drop _)
              obtain ⟨q1, q2⟩ := hR.write (b' := ⟨b.cells.take off ++ cs ++ b.cells.drop (off + Nat.min sn dn * i.size), b.elem, none⟩) g1 hb u1 u2 hl2 rfl rfl (by simp only; rw [hl2, hbl]; exact u3) hvr
              refine ⟨M, _, _, .value (.int .i64 (Nat.min sn dn)), fun o ho => hop o ho _ _ ⟨_, rfl, ?_⟩, .inl rfl, .int _ _, Ext.refl _ _ _, q1, q2⟩
              have hmm : (Nat.min sn dn : Int) = ((Nat.min sn dn : Nat) : Int) := rfl
              simp only [Builtin.copy_, hty, Sem.run_bind, run_underlying h2', Result.andThen_ok, Builtin.lenOf, Sem.run_pure, hT.sizeOf he w, Builtin.firstCells, hld, goInt]
              simp [run_underlying h2', Builtin.lenOf, hT.sizeOf he w, Builtin.firstCells, hld, hst, goInt, k2]
            · cases h
          · cases h
      · cases h
    · rename_i i he
      obtain ⟨d1, dc, hd1⟩ := hd.isSlice
      split at h
      · cases h
        obtain ⟨x1, xc, hx1⟩ := hx.isSlice
        exact zero h2' (hT.sizeOf he w) hd1 hx1 (Nat.min_zero _)
      · cases h
    · cases h
  · cases h
include hT hR hF in
theorem evalE_sound {op : Op} (h : evalE T lo F H op = some (v, H')) : Effect P lo M H w a.eval op v H' := by
  unfold evalE at h
  split at h
  · split at h
    · rename_i hi; cases h; exact e_alloc hT hR hi
    · cases h
  · split at h
    · rename_i hx; cases h; exact e_box hR hF hx
    · cases h
  · split at h
    · rename_i hp; exact e_row hT hR hF hp h
    · cases h
  · split at h
    · rename_i hx
      split at h
      · rename_i hy
        split at h
        · rename_i hs; cases h; exact e_store hT hR hF hx hy hs
        · cases h
      · cases h
    · cases h
  · split at h
    · rename_i hl
      split at h
      · rename_i hc; exact e_make hT hR (arg_sound hF hl) (arg_sound hF hc) h
      · cases h
    · cases h
  · rename_i b args tys
    split at h
    · rename_i s x t t' ha ht
      split at h
      · rename_i htt
        subst htt
        split at h
        · rename_i s' hs
          split at h
          · rename_i x' hx
            refine e_append hT hR (arg_sound hF hs) (arg_sound hF hx) h fun o ho nx w' ⟨rv, h1, h2⟩ => ?_
            subst h1
            have e1 : args.map a.eval = #[a.eval s, a.eval x] := by
              rw [← Array.toArray_toList (xs := args), ha]; simp
            have e2 : tys = #[t, t] := by rw [← Array.toArray_toList (xs := tys), ht]
            subst e2
            simp only [execOp, ho, resolve, e1, invoke, builtin, Sem.run_bind, Sem.run_pure, Result.andThen_ok, h2]
          · cases h
        · cases h
      · cases h
    · rename_i d x t ts ha ht
      split at h
      · rename_i d' hd
        split at h
        · rename_i x' hx
          have hty : tys[0]? = some t := by rw [← Array.getElem?_toList, ht]; rfl
          refine e_copy hT hR hty (arg_sound hF hd) (arg_sound hF hx) h fun o ho nx w' ⟨rv, h1, h2⟩ => ?_
          subst h1
          have e1 : args.map a.eval = #[a.eval d, a.eval x] := by
            rw [← Array.toArray_toList (xs := args), ha]; simp
          simp only [execOp, ho, resolve, e1, invoke, builtin, Sem.run_bind, Sem.run_pure, Result.andThen_ok, h2]
        · cases h
      · cases h
    · cases h
  · cases h
end
end Go.Proofs.YtgkicojmgokinaaGreatDoor.Ab
