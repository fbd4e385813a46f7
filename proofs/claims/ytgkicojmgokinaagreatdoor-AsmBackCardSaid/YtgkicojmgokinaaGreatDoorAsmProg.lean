/- asm.Program: the words of lines that are all instructions; else the first that is none is named. -/
import Derived.Test.YtgkicojmgokinaaGreatDoorAsmProgRuns
namespace Go.Proofs.YtgkicojmgokinaaGreatDoor.Ab
open Go Go.RowKit
set_option linter.unusedVariables false
set_option linter.unusedSimpArgs false
set_option maxRecDepth 100000
noncomputable def wordOf (s : ByteArray) : Int := encW (parI s)
noncomputable def prW (ss : List ByteArray) (k : Nat) : List Int := (ss.take k).map wordOf
noncomputable def prH (ss : List ByteArray) (k : Nat) : Heap := match k with
  | 0 => []
  | k + 1 => [some ⟨(prW ss (k + 1)).map (Value.int .u32), 22, none⟩]
def prFk (ss : List ByteArray) (k : Nat) : Fr := prF ss (sliV 0 k 1) (Int.ofNat ss.length) (Int.ofNat k)
/-- Texts that are not too long. -/
def Short (ss : List ByteArray) : Prop := ss.length ≤ 1000000 ∧ ∀ s ∈ ss, s.size ≤ 100000
theorem short_at {ss : List ByteArray} (h : Short ss) {k : Nat} (hk : k < ss.length) : ln (ss.getD k noS) = true :=
  ln_of (h.2 _ (by rw [List.getD_eq_getElem?_getD, List.getElem?_eq_getElem hk]; exact List.getElem_mem hk))
theorem prW_succ {ss : List ByteArray} {k : Nat} (hk : k < ss.length) : prW ss (k + 1) = prW ss k ++ [wordOf (ss.getD k noS)] := by
  unfold prW
  rw [List.take_add_one, List.getD_eq_getElem?_getD, List.getElem?_eq_getElem hk, List.map_append]
  rfl
theorem prW_len {ss : List ByteArray} {k : Nat} (hk : k ≤ ss.length) : (prW ss k).length = k := by
  unfold prW; rw [List.length_map, List.length_take]; omega
theorem prT_good {ss : List ByteArray} (hs : Short ss) {K : Nat} (hk : K < ss.length) (hp : parB (ss.getD K noS) = true) (good : Inst → Int → Res) (bad : Res) : prT encE encW parB parI ss K good bad = good (parI (ss.getD K noS)) (wordOf (ss.getD K noS)) := by
  unfold prT
  rw [ldSG_eq hk, ldS_eq hk]
  show (bif ln (ss.getD K noS) && parB (ss.getD K noS) then _ else _) = _
  rw [short_at hs hk, hp]
  simp only [toStr, Bool.true_and, cond_true]
  rw [show Nat.beq (encE (parI (ss.getD K noS))) 0 = true by rw [(par_inv hp).1]; rfl]
  rfl
theorem prT_bad {ss : List ByteArray} (hs : Short ss) {K : Nat} (hk : K < ss.length) (hp : parB (ss.getD K noS) = false) (good : Inst → Int → Res) (bad : Res) : prT encE encW parB parI ss K good bad = bad := by
  unfold prT
  rw [ldSG_eq hk, ldS_eq hk]
  show (bif ln (ss.getD K noS) && parB (ss.getD K noS) then _ else bif ln (ss.getD K noS) && !parB (ss.getD K noS) then _ else _) = _
  rw [short_at hs hk, hp]; rfl
theorem pr_slots {ss : List ByteArray} {n k : Int} (j m : Nat) : ∀ e ∈ prF ss (sl 0 (m + 1) 1) n k, ((prF ss (sl j (m + 1) 1) n k).get e.1 = some e.2 ∧ Gh e.2) ∨ ∃ m' z, 0 < z ∧ (prF ss (sl j (m + 1) 1) n k).get e.1 = some (.slice (some ⟨j, 0, none⟩) m' z) ∧ e.2 = .slice (some ⟨0, 0, none⟩) m' z := fun e he => by
  simp only [prF, List.mem_cons, List.not_mem_nil, or_false] at he
  rcases he with rfl | rfl | rfl | rfl
  · exact .inr ⟨m + 1, 1, by omega, rfl, rfl⟩
  · exact .inl ⟨rfl, LS_gh ss⟩
  · exact .inl ⟨rfl, gh_int _ _⟩
  · exact .inl ⟨rfl, gh_int _ _⟩
theorem pr_round {ss : List ByteArray} (hs : Short ss) {k : Nat} (hk : k < ss.length) (hp : parB (ss.getD k noS) = true) : GcOK Tryz.prog 0 0 41 prB (prFk ss k) (prH ss k) .normal (prFk ss (k + 1)) (prH ss (k + 1)) := by
  have hd : decide (Int.ofNat k < Int.ofNat ss.length) = true := decide_eq_true (by simp; omega)
  have hl := hs.1
  have ew : w64 (Int.ofNat k + 1) = Int.ofNat (k + 1) := w64_of (by simp; omega) (by simp; omega)
  have eH : prH ss (k + 1) = [some ⟨(prW ss k).map (Value.int .u32) ++ [.int .u32 (wordOf (ss.getD k noS))], 22, none⟩] := by
    show [some (Blk.mk ((prW ss (k + 1)).map (Value.int .u32)) 22 none)] = _
    rw [prW_succ hk, List.map_append]; rfl
  rw [eH]
  cases k with
  | zero =>
    have h := pr_rnd0 encE encW parB parI ss (Int.ofNat ss.length) 0
    rw [hd, cond_true, prT_good hs hk hp, ew] at h
    have r := RowOK.go (base := 0) (RowOK.of_seeA prΦ_ok (m := 20) (j := 20) (f := 17) (p := keeps 17) (ts := [4, 11, 12, 13]) rfl (pr_dr2 _ _ _ _) h)
    exact GoOK.code (GoOK.one r 2 rfl rfl (fun x hx => by
      rcases List.mem_append.1 hx with hx | hx
      · exact words_gh _ x hx
      · simp at hx; subst hx; exact gh_int _ _) (pr_slots 2 0))
  | succ m =>
    have h := pr_rnd1 encE encW parB parI ss (Int.ofNat ss.length) (m + 1) m ((prW ss (m + 1)).map (Value.int .u32))
    rw [hd, cond_true, prT_good hs hk hp, ew, moreG_eq (by rw [List.length_map, prW_len (by omega)]; omega) (by omega) (by omega)] at h
    have r := RowOK.go (base := 0) (RowOK.of_seeA prΦ_ok (m := 20) (j := 20) (f := 17) (p := keeps 17) (ts := [4, 11, 12, 13]) rfl (pr_dr2 _ _ _ _) h)
    exact GoOK.code (GoOK.one r 3 rfl rfl (fun x hx => by
      rcases List.mem_append.1 hx with hx | hx
      · exact words_gh _ x hx
      · simp at hx; subst hx; exact gh_int _ _) (pr_slots 3 (m + 1)))
theorem pr_hend {ss : List ByteArray} : GcOK Tryz.prog 0 0 41 prB (prFk ss ss.length) (prH ss ss.length) (.exit 0) (prFk ss ss.length) (prH ss ss.length) := by
  have hd : decide (Int.ofNat ss.length < Int.ofNat ss.length) = false := decide_eq_false (by simp)
  cases hl : ss.length with
  | zero =>
    have h := pr_rnd0 encE encW parB parI ss (Int.ofNat ss.length) 0
    rw [hl] at hd h
    rw [hd, cond_false] at h
    unfold prFk
    rw [hl]
    exact GoOK.code (RowOK.go (RowOK.of_seeA prΦ_ok (m := 20) (j := 20) (f := 17) (p := keeps 17) (ts := [4, 11, 12, 13]) rfl (pr_dr2 _ _ _ _) h))
  | succ m =>
    have h := pr_rnd1 encE encW parB parI ss (Int.ofNat ss.length) (m + 1) m ((prW ss (m + 1)).map (Value.int .u32))
    rw [hl] at hd h
    rw [hd, cond_false] at h
    unfold prFk
    rw [hl]
    exact GoOK.code (RowOK.go (RowOK.of_seeA prΦ_ok (m := 20) (j := 20) (f := 17) (p := keeps 17) (ts := [4, 11, 12, 13]) rfl (pr_dr2 _ _ _ _) h))
/-- At a text that is none it is left; what is told of the error: its place, and the plain one. -/
theorem pr_bend {ss : List ByteArray} (hs : Short ss) {k : Nat} (hk : k < ss.length) (hp : parB (ss.getD k noS) = false) : GcOK Tryz.prog 0 0 41 prB (prFk ss k) (prH ss k) .ret [(2, nilV), (3, .iface 89 (gp (prE (Int.ofNat k))))] [] := by
  have hd : decide (Int.ofNat k < Int.ofNat ss.length) = true := decide_eq_true (by simp; omega)
  have hg : ∀ x ∈ prE (Int.ofNat k), Gh x := fun x hx => by
    simp only [prE, List.mem_cons, List.not_mem_nil, or_false] at hx
    rcases hx with rfl | rfl
    · exact gh_int _ _
    · exact gh_err 0
  cases k with
  | zero =>
    have h := pr_bad0 encE encW parB parI ss (Int.ofNat ss.length) 0
    rw [hd, cond_true, prT_bad hs hk hp] at h
    have r := RowOK.go (base := 0) (RowOK.of_seeA (F2 := [(2, nilV), (3, .iface 89 (ptr 1))]) prΦ_ok (m := 20) (j := 20) (f := 17) (p := keeps 17) (ts := [2, 3]) rfl (pr_dr2 _ _ _ _) h)
    refine GoOK.code (GoOK.freezeW r fun e he => ?_)
    simp only [List.mem_cons, List.not_mem_nil, or_false] at he
    rcases he with rfl | rfl
    · exact ⟨nilV, rfl, .inl (.inl ⟨rfl, Gh.plain rfl⟩)⟩
    · exact ⟨_, rfl, .inr ⟨89, 1, prE (Int.ofNat 0), 91, rfl, rfl, hg, rfl⟩⟩
  | succ m =>
    have h := pr_bad1 encE encW parB parI ss (Int.ofNat ss.length) (m + 1) m ((prW ss (m + 1)).map (Value.int .u32))
    rw [hd, cond_true, prT_bad hs hk hp] at h
    have r := RowOK.go (base := 0) (RowOK.of_seeA (F2 := [(2, nilV), (3, .iface 89 (ptr 2))]) prΦ_ok (m := 20) (j := 20) (f := 17) (p := keeps 17) (ts := [2, 3]) rfl (pr_dr2 _ _ _ _) h)
    refine GoOK.code (GoOK.freezeW r fun e he => ?_)
    simp only [List.mem_cons, List.not_mem_nil, or_false] at he
    rcases he with rfl | rfl
    · exact ⟨nilV, rfl, .inl (.inl ⟨rfl, Gh.plain rfl⟩)⟩
    · exact ⟨_, rfl, .inr ⟨89, 2, prE (Int.ofNat (m + 1)), 91, rfl, rfl, hg, rfl⟩⟩
theorem pr_hd (ss : List ByteArray) : GoOK Tryz.prog 0 0 41 (prP 0 3) (enterF 0 [LS ss]) [] .normal (prFk ss 0) (prH ss 0) :=
  RowOK.go (RowOK.of_seeA prΦ_ok (m := 20) (j := 20) (f := 17) (p := keeps 17) (ts := [4, 11, 12, 13]) rfl (pr_dr1 _ _ _ _) (pr_head encE encW parB parI ss))
theorem pr_fin {ss : List ByteArray} {F' : Fr} {v e : Value} (h : GoOK Tryz.prog 0 0 41 (flat (bodyOf 17)) (enterF 0 [LS ss]) [] .ret F' []) (h2 : F'.get 2 = some v) (h3 : F'.get 3 = some e) (hv : Gh v) (he : Gh e) : PureOK Tryz.prog 17 [LS ss] (.tuple #[v, e]) := by
  obtain ⟨fn, f1, f2, f3, f4⟩ := fnOf fn17
  have hc := CallOK.of_go noOK (f := 17) (fn := fn) (c := bodyOf 17) (args := [LS ss]) (l := [v, e]) (H := []) f1 f2 (by rw [f3]; simp) (by rw [f3]; exact GoOK.code h) (.inr rfl) (by rw [f4]; simp only [resA, h2, h3])
  exact PureOK.of_call hc (Gh.tuple fun x hx => by
    simp only [List.mem_cons, List.not_mem_nil, or_false] at hx
    rcases hx with rfl | rfl
    · exact hv
    · exact he)
def atErr (k : Nat) : Value := .iface 89 (gp (prE (Int.ofNat k)))
theorem atErr_gh (k : Nat) : Gh (atErr k) := Gh.iface (Gh.gp fun x hx => by
    simp only [prE, List.mem_cons, List.not_mem_nil, or_false] at hx
    rcases hx with rfl | rfl
    · exact gh_int _ _
    · exact gh_err 0)
theorem progBadOK {ss : List ByteArray} (hs : Short ss) {k : Nat} (hk : k < ss.length) (hg : ∀ j, j < k → parB (ss.getD j noS) = true) (hb : parB (ss.getD k noS) = false) : PureOK Tryz.prog 17 [LS ss] (.tuple #[nilV, atErr k]) := by
  have lp := (GcOK.block (id := 0) (GcOK.loop (P := Tryz.prog) (lo := 0) (base := 0) (n := 41) (c := prB) (prFk ss) (prH ss) k (e := .ret) (by intro h; cases h) (fun j hj => pr_round hs (by omega) (hg j hj)) (pr_bend hs hk hb))).row
  have all := (pr_hd ss).app (lp.left (by intro h; cases h) (prP 4 2))
  rw [← pr_flat] at all
  exact pr_fin all rfl rfl (Gh.plain rfl) (atErr_gh k)
/-- The same, the error told as a place that was made. -/
theorem pr_bendC {ss : List ByteArray} (hs : Short ss) {k : Nat} (hk : k < ss.length) (hp : parB (ss.getD k noS) = false) : GcOK Tryz.prog 0 0 41 prB (prFk ss k) (prH ss k) .ret [(2, nilV), (3, .iface 89 (ptr 0))] [some ⟨prE (Int.ofNat k), 91, none⟩] := by
  have hd : decide (Int.ofNat k < Int.ofNat ss.length) = true := decide_eq_true (by simp; omega)
  have hg : ∀ x ∈ prE (Int.ofNat k), Gh x := fun x hx => by
    simp only [prE, List.mem_cons, List.not_mem_nil, or_false] at hx
    rcases hx with rfl | rfl
    · exact gh_int _ _
    · exact gh_err 0
  cases k with
  | zero =>
    have h := pr_bad0 encE encW parB parI ss (Int.ofNat ss.length) 0
    rw [hd, cond_true, prT_bad hs hk hp] at h
    have r := RowOK.go (base := 0) (RowOK.of_seeA (F2 := [(2, nilV), (3, .iface 89 (ptr 1))]) prΦ_ok (m := 20) (j := 20) (f := 17) (p := keeps 17) (ts := [2, 3]) rfl (pr_dr2 _ _ _ _) h)
    refine GoOK.code (GoOK.oneI r 1 rfl rfl hg fun e he => ?_)
    simp only [List.mem_cons, List.not_mem_nil, or_false] at he
    rcases he with rfl | rfl
    · exact .inl ⟨rfl, Gh.plain rfl⟩
    · exact .inr (.inr ⟨89, rfl, rfl⟩)
  | succ m =>
    have h := pr_bad1 encE encW parB parI ss (Int.ofNat ss.length) (m + 1) m ((prW ss (m + 1)).map (Value.int .u32))
    rw [hd, cond_true, prT_bad hs hk hp] at h
    have r := RowOK.go (base := 0) (RowOK.of_seeA (F2 := [(2, nilV), (3, .iface 89 (ptr 2))]) prΦ_ok (m := 20) (j := 20) (f := 17) (p := keeps 17) (ts := [2, 3]) rfl (pr_dr2 _ _ _ _) h)
    refine GoOK.code (GoOK.oneI r 2 rfl rfl hg fun e he => ?_)
    simp only [List.mem_cons, List.not_mem_nil, or_false] at he
    rcases he with rfl | rfl
    · exact .inl ⟨rfl, Gh.plain rfl⟩
    · exact .inr (.inr ⟨89, rfl, rfl⟩)
theorem progBadC {ss : List ByteArray} (hs : Short ss) {k : Nat} (hk : k < ss.length) (hg : ∀ j, j < k → parB (ss.getD j noS) = true) (hb : parB (ss.getD k noS) = false) : CallOK Tryz.prog 0 17 [LS ss] [] (.tuple #[nilV, .iface 89 (ptr 0)]) [some ⟨prE (Int.ofNat k), 91, none⟩] := by
  have lp := (GcOK.block (id := 0) (GcOK.loop (P := Tryz.prog) (lo := 0) (base := 0) (n := 41) (c := prB) (prFk ss) (prH ss) k (e := .ret) (by intro h; cases h) (fun j hj => pr_round hs (by omega) (hg j hj)) (pr_bendC hs hk hb))).row
  have all := (pr_hd ss).app (lp.left (by intro h; cases h) (prP 4 2))
  rw [← pr_flat] at all
  obtain ⟨fn, f1, f2, f3, f4⟩ := fnOf fn17
  exact CallOK.of_go noOK (f := 17) (fn := fn) (c := bodyOf 17) (args := [LS ss]) (l := [nilV, .iface 89 (ptr 0)]) (H := []) f1 f2 (by rw [f3]; simp) (by rw [f3]; exact GoOK.code all) (.inr rfl) (by rw [f4]; rfl)
theorem progOK {ss : List ByteArray} (hs : Short ss) (hg : ∀ j, j < ss.length → parB (ss.getD j noS) = true) : PureOK Tryz.prog 17 [LS ss] (.tuple #[LW (ss.map wordOf), .nilIface]) := by
  have lp := (GcOK.block (id := 0) (GcOK.loop (P := Tryz.prog) (lo := 0) (base := 0) (n := 41) (c := prB) (prFk ss) (prH ss) ss.length (e := .exit 0) (by intro h; cases h) (fun j hj => pr_round hs hj (hg j hj)) pr_hend)).row
  have eW : prW ss ss.length = ss.map wordOf := by unfold prW; rw [List.take_length]
  have fz : GoOK Tryz.prog 0 0 41 [.block 0 (.loop prB)] (prFk ss 0) (prH ss 0) .normal [(4, LW (ss.map wordOf))] [] := by
    refine GoOK.freeze lp (fun e he => ?_)
    simp only [List.mem_cons, List.not_mem_nil, or_false] at he
    subst he
    refine ⟨sliV 0 ss.length 1, rfl, ?_⟩
    cases hl : ss.length with
    | zero =>
      have : ss = [] := List.eq_nil_of_length_eq_zero hl
      subst this
      exact .inr (.inr ⟨1, rfl, rfl⟩)
    | succ m =>
      have lcl : ((ss.map wordOf).map (Value.int .u32)).length = (m + 1) * 1 := by rw [List.length_map, List.length_map, hl]; omega
      refine .inr (.inl ⟨0, m + 1, 1, (ss.map wordOf).map (Value.int .u32), 22, by omega, rfl, ?_, by rw [lcl]; exact Nat.le_refl _, words_gh _, ?_⟩)
      · show some (some (Blk.mk ((prW ss (m + 1)).map (Value.int .u32)) 22 none)) = _
        rw [← hl, eW]
      · rw [List.take_of_length_le (by rw [lcl]; exact Nat.le_refl _)]
        unfold LW; rw [List.length_map, hl]
  have tl : GoOK Tryz.prog 0 0 41 (prP 4 2) [(4, LW (ss.map wordOf))] [] .ret [(2, LW (ss.map wordOf)), (3, .nilIface)] [] :=
    RowOK.go (RowOK.of_seeA prΦ_ok (m := 20) (j := 20) (f := 17) (p := keeps 17) (ts := [2, 3]) rfl (pr_dr3 _ _ _ _) (pr_end encE encW parB parI (LW (ss.map wordOf))))
  have all := (pr_hd ss).app (fz.app tl)
  rw [← pr_flat] at all
  exact pr_fin all rfl rfl (LW_gh _) (Gh.plain rfl)
end Go.Proofs.YtgkicojmgokinaaGreatDoor.Ab
