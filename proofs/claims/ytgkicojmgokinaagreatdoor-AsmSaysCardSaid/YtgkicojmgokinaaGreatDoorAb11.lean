/- Trimmed: Ab11 -/
import Derived.Test.YtgkicojmgokinaaGreatDoorAb10v
namespace Go.Proofs.YtgkicojmgokinaaGreatDoor.Ab
open Go Go.RowKit
set_option linter.unusedVariables false
set_option linter.unusedSimpArgs false
def viewOf (b : Nat) : Nat → Heap → Option (Nat × Nat)
  | _, [] => none
  | k, some ⟨_, _, some (p, o)⟩ :: r => bif p == b then some (k, o) else viewOf b (k + 1) r
  | k, _ :: r => viewOf b (k + 1) r
def placeC (T : Tab) (H : Heap) (t : TypeId) (x : Value) (k : Int) : Option (Bool × Value) :=
  match x with
  | .pointer (some p) => match T t with
    | some ⟨.array n e, _, _, _⟩ => match T e with
      | some i => some (decide (0 ≤ k) && decide (k < n), .pointer (some ⟨p.block, p.off + k.toNat * i.size, none⟩))
      | none => none
    | _ => none
  | .slice (some p) n z => match T t with
    | some ⟨.slice e, _, _, _⟩ => match T e with
      | some i => match viewOf p.block 0 H with
        | some (v, o) => some (decide (0 ≤ k) && (decide (k < n) && Nat.beq o (p.off + k.toNat * i.size)), .pointer (some ⟨v, 0, none⟩))
        | none => some (decide (0 ≤ k) && decide (k < n), .pointer (some ⟨p.block, p.off + k.toNat * i.size, none⟩))
      | none => none
    | _ => none
  | _ => none
def sntA (T : Tab) (t t1 t2 : TypeId) (x y : Value) : Option Value :=
  match x, y with
  | .func (.methodOf 2 _) _ ⟨[.int _ (.ofNat g)]⟩, .func (.methodOf 2 _) _ ⟨[.int _ (.ofNat g')]⟩ => match T t, T t1 with
    | some ⟨.iface, _, _, _⟩, some ⟨.ptr e, _, _, _⟩ => match T e with
      | some i => if t1 = sntT ∧ t2 = sntT ∧ i.size ≠ 0 ∧ g ∈ snts ∧ g' ∈ snts then some (.bool (Nat.beq g g')) else none
      | none => none
    | _, _ => none
  | _, _ => none
def binC (T : Tab) (op : BinOp) (t : TypeId) (lit : Bool) (x y : Value) : Option (Bool × Value) :=
  match op, x, y with
  | .quo, .int k a, .int k' b => if k = k' then some (!(b == 0), .int k (k.wrap (a.tdiv b))) else none
  | .rem, .int k a, .int k' b => if k = k' then some (!(b == 0), .int k (a.tmod b)) else none
  | .shl, .int k a, .int _ b => some (decide (0 ≤ b), .int k (k.wrap (a * 2 ^ (min b.toNat k.bits))))
  | .shr, .int k a, .int _ b => some (decide (0 ≤ b), .int k (a.fdiv (2 ^ (min b.toNat k.bits))))
  | .add, .string a, .string b => some (decide (a.size + b.size < 4611686018427387904), .string (a ++ b))
  | .eql, .iface t1 x, .iface t2 y => match sntA T t t1 t2 x y with
    | some v => some (true, v)
    | none => none
  | op, x, y => match binA T op t lit x y with
    | some v => some (true, v)
    | none => none
def assertA (T : Tab) (t : TypeId) (x : Value) : Option Value :=
  match T t with
  | some ⟨.iface, _, _, _⟩ => none
  | some i => match x with
    | .iface t' v => bif Nat.beq t' t then some (.tuple #[v, .bool true]) else some (.tuple #[i.zero, .bool false])
    | .nilIface => some (.tuple #[i.zero, .bool false])
    | _ => none
  | none => none
def isByte : Value → Bool
  | .int .u8 k => decide (0 ≤ k) && decide (k < 256)
  | _ => false
def byteOf : Value → UInt8
  | .int _ k => UInt8.ofNat k.toNat
  | _ => 0
def textA (T : Tab) (H : Heap) (s d : TypeId) (x : Value) : Option (Bool × Value) :=
  match x with
  | .slice (some ⟨b, o, none⟩) n 1 => match T s, T d, cellsAt H b o n with
    | some ⟨.slice e, _, _, _⟩, some ⟨.str, _, _, _⟩, some cs => match T e with
      | some ⟨.int .u8, 1, _, _⟩ => some (cs.all isByte, .string ⟨⟨cs.map byteOf⟩⟩)
      | _ => none
    | _, _, _ => none
  | _ => none
def evalC (T : Tab) (F : Fr) (H : Heap) (op : Op) : Option (Bool × Value) :=
  match op with
  | .indexAddr t x i => match arg F i with
    | some (.int _ k) => match arg F x with
      | some v => match placeC T H t v k with
        | some r => some r
        | none => placeG T t v k
      | none => none
    | _ => none
  | .binOp op t x y _ => match arg F x with
    | some a => match arg F y with
      | some b => binC T op t (Region.isConst x || Region.isConst y) a b
      | none => none
    | none => none
  | .load t x => match arg F x with
    | some v => loadC T H t v
    | none => none
  | .fieldAddr t x f => match arg F x with
    | some v => fieldG T t v f
    | none => none
  | .slice t x lo hi none => match arg F x with
    | some v => sliceG T H F t v lo hi
    | none => none
  | .index t x i => match arg F i with
    | some (.int _ k) => match arg F x with
      | some v => indexG T t v k
      | none => none
    | _ => none
  | .field t x f => match arg F x with
    | some (.agg cs) => match T t with
      | some ⟨.struct fs, _, _, _⟩ => match fs[f]? with
        | some (off, ft) => partG T ft cs.toList off
        | none => none
      | _ => none
    | _ => none
  | .call ⟨.builtin .len, args, tys⟩ => match tys.toList, argsA F args.toList with
    | t :: _, some (x :: _) => lenG T t x
    | _, _ => none
  | .convert s d x => match arg F x with
    | some v => match convA T s d v with
      | some r => some (true, r)
      | none => textA T H s d v
    | none => none
  | .typeAssert x _ t true => match arg F x with
    | some v => match assertA T t v with
      | some r => some (true, r)
      | none => none
    | none => none
  | op => match evalQ T F H op with
    | some v => some (true, v)
    | none => none
def splitB {α : Type} (v : Value) (K : Value → Option α) : Option α :=
  match v with
  | .bool b => bif b then K (.bool true) else K (.bool false)
  | v => K v
def splitI {α : Type} : List Int → Value → (Value → Option α) → Option α
  | [], _, _ => none
  | c :: r, v, K => match v with
    | .int k x => bif x == c then K (.int k c) else splitI r (.int k x) K
    | _ => none
def restsOf : Op → Option (List Int)
  | .binOp .rem _ _ (.const (.int _ m)) _ => bif m == 2 then some [0, 1, -1] else bif m == 3 then some [0, 1, 2, -1, -2] else bif m == 4 then some [0, 1, 2, 3, -1, -2, -3] else none
  | _ => none
def twoWays (T : Tab) : Op → Bool
  | .load t _ => match T t with
    | some ⟨.bool, _, _, _⟩ => true
    | _ => false
  | .move _ => false
  | .assign _ => false
  | _ => true
def splitR {α : Type} (T : Tab) (op : Op) (v : Value) (K : Value → Option α) : Option α :=
  match restsOf op with
  | some l => splitI l v K
  | none => bif twoWays T op then splitB v K else K v
inductive Draw
  | quiet
  | tail (s : Nat)
  | sched (h t : List Nat)
  | mix (n : Nat) (h t : List Nat)
  | two (r h t1 t2 : List Nat)
  | one (qs : List Nat) (e : Nat) (t2 : List Nat)
abbrev Oracle := Nat → FuncId → List Value → Heap → Option (List (Bool × Value × Heap))
structure Ctx where
  T : Tab
  Fn : FuncId → Option Func
  Φ : Oracle
  dr : FuncId → Nat → Draw
  keep : FuncId → Nat → Bool
  /-- functions whose rows are told by what they hold -/
  gh : FuncId → Bool
  gB : Bool
abbrev Call (α : Type) := Nat → FuncId → List Value → Heap → (Value → Heap → Option α) → Option α
def wantA (ops : List Oper) (F : Fr) (g : Option (Nat × Bool)) : Option Bool :=
  match g with
  | none => some true
  | some (j, b) => match ops[j]? with
    | some o => match o.dst with
      | some d => match F.get d with
        | some (.bool c) => some (c == b)
        | some (.tuple _) => some false
        | _ => none
      | none => none
    | none => none
def putA (n : Nat) (F : Fr) (dst : Option Tmp) (v : Value) : Option Fr :=
  match dst with
  | none => some F
  | some d => bif Nat.blt d n then some ((d, v) :: F) else none
def calleeA (F : Fr) (f : Operand) (args : List Operand) : Option (FuncId × List Value) :=
  match arg F f with
  | some (.func (.func g) a b) => match argsA F args with
    | some l => some (g, a.toList ++ l ++ b.toList)
    | none => none
  | _ => none
section
variable {α : Type}
def stepK (C : Ctx) (call : Call α) (lo : Nat) (F : Fr) (H : Heap) (op : Op) (K : Value → Heap → Option α) : Option α :=
  match op with
  | .call ⟨.value f, args, _⟩ => match calleeA F f args.toList with
    | some (g, l) => call lo g l H (fun v H' => splitB v (fun v => K v H'))
    | none => none
  | op => match evalC C.T F H op with
    | some (c, v) => bif c then splitR C.T op v (fun v => K v H) else none
    | none => match evalF C.T C.gB lo F H op with
      | some (g, v, H') => match apdN C.T F op with
        | some c => bif c then K (.slice none 0 0) H else bif g then K v H' else none
        | none => bif g then K v H' else none
      | none => none
def opsK (C : Ctx) (call : Call α) (lo n : Nat) (ops : List Oper) : List Oper → Fr → Heap → (Fr → Heap → Option α) → Option α
  | [], F, H, K => K F H
  | o :: r, F, H, K => match wantA ops F o.guard with
    | some b => bif b then stepK C call lo F H o.op (fun v H' => match putA n F o.dst v with
          | some F' => opsK C call lo n ops r F' H' K
          | none => none)
        else match putA n F o.dst undef with
          | some F' => opsK C call lo n ops r F' H K
          | none => none
    | none => none
def stepQ (C : Ctx) (call : Call α) (lo : Nat) (F : Fr) (H : Heap) (op : Op) (K : Value → Option α) : Option α :=
  match op with
  | .call ⟨.value f, args, _⟩ => match calleeA F f args.toList with
    | some (g, l) => call (H.length + lo) g l H (fun v _ => bif plain v then splitB v K else none)
    | none => none
  | op => match evalC C.T F H op with
    | some (c, v) => bif c then splitR C.T op v K else none
    | none => none
def quietK (C : Ctx) (call : Call α) (lo n : Nat) (ops : List Oper) (H : Heap) : List Oper → Fr → (Fr → Option α) → Option α
  | [], F, K => K F
  | o :: r, F, K => match wantA ops F o.guard with
    | some b => bif b then stepQ C call lo F H o.op (fun v => match putA n F o.dst v with
          | some F' => quietK C call lo n ops H r F' K
          | none => none)
        else match putA n F o.dst undef with
          | some F' => quietK C call lo n ops H r F' K
          | none => none
    | none => none
def maskH (lo : Nat) (H : Heap) : Heap := H.take lo ++ List.replicate (H.length - lo) none
def headK (C : Ctx) (n : Nat) (ops : List Oper) (H : Heap) : List Nat → Fr → (Fr → Option α) → Option α
  | [], F, K => K F
  | i :: l, F, K => match ops[i]? with
    | some o => match wantA ops F o.guard with
      | some b => bif b then (match evalC C.T F H o.op with
          | some (c, v) => bif c then splitR C.T o.op v (fun v => match putA n F o.dst v with
            | some F' => headK C n ops H l F' K
            | none => none) else none
          | none => none)
        else match putA n F o.dst undef with
          | some F' => headK C n ops H l F' K
          | none => none
      | none => none
    | none => none
def tailK (C : Ctx) (call : Call α) (lo n : Nat) (ops : List Oper) : List Nat → Fr → Heap → (Fr → Heap → Option α) → Option α
  | [], F, H, K => K F H
  | i :: l, F, H, K => match ops[i]? with
    | some o => match wantA ops F o.guard with
      | some b => bif b then stepK C call lo F H o.op (fun v H' => match putA n F o.dst v with
            | some F' => tailK C call lo n ops l F' H' K
            | none => none)
          else match putA n F o.dst undef with
            | some F' => tailK C call lo n ops l F' H K
            | none => none
      | none => none
    | none => none
def quietL (C : Ctx) (call : Call α) (lo n : Nat) (ops : List Oper) (H : Heap) : List Nat → Fr → (Fr → Option α) → Option α
  | [], F, K => K F
  | i :: r, F, K => match ops[i]? with
    | some o => match wantA ops F o.guard with
      | some b => bif b then stepQ C call lo F H o.op (fun v => match putA n F o.dst v with
            | some F' => quietL C call lo n ops H r F' K
            | none => none)
          else match putA n F o.dst undef with
            | some F' => quietL C call lo n ops H r F' K
            | none => none
      | none => none
    | none => none
def slotK (n : Nat) (ops : List Oper) : List Nat → Fr → (Fr → Option α) → Option α
  | [], F, K => K F
  | i :: l, F, K => match ops[i]? with
    | some ⟨dst, .move x, _, _, _, none⟩ => match arg F x with
      | some v => match putA n F dst v with
        | some F' => slotK n ops l F' K
        | none => none
      | none => none
    | _ => none
def tailU (C : Ctx) (call : Call α) (lo n : Nat) (ops : List Oper) : List Nat → Fr → Heap → (Fr → Heap → Option α) → Option α
  | [], F, H, K => K F H
  | i :: l, F, H, K => match ops[i]? with
    | some o => match wantA ops F o.guard with
      | some b => bif b then stepK C call (Nat.max lo H.length) F H o.op (fun v H' => match putA n F o.dst v with
            | some F' => tailU C call lo n ops l F' (H ++ H'.drop H.length) K
            | none => none)
          else match putA n F o.dst undef with
            | some F' => tailU C call lo n ops l F' H K
            | none => none
      | none => none
    | none => none
def regionK (C : Ctx) (call : Call α) (lo n : Nat) (d : Draw) (ops : List Oper) (draw : Bool) (F : Fr) (H : Heap) (K : Fr → Heap → Option α) : Option α :=
  bif draw then (match d with
    | .quiet => quietK C call lo n ops H ops F (fun F' => K F' H)
    | .tail s => quietK C call lo n ops H (ops.take s) F (fun F' => opsK C call lo n ops (ops.drop s) F' H K)
    | .sched h t => bif (H.drop lo).all Option.isSome then headK C n ops (maskH lo H) h F (fun F' => tailK C call lo n ops t F' H K) else none
    | .mix s h t => bif (H.drop lo).all Option.isSome then quietK C call lo n ops H (ops.take s) F (fun F1 => headK C n ops (maskH lo H) h F1 (fun F' => tailK C call lo n ops t F' H K)) else none
    | .two r h t1 t2 => slotK n ops r F (fun F0 => headK C n ops H h F0 (fun F1 => tailU C call lo n ops t1 F1 H (fun F' H' => tailK C call lo n ops t2 F' H' K)))
    | .one qs e t2 => quietL C call lo n ops H qs F (fun F1 => match ops[e]? with
      | some ⟨dst, .alloc t, _, _, _, none⟩ => match C.T t with
        | some i => match putA n F1 dst (.pointer (some ⟨H.length, 0, none⟩)) with
          | some F2 => tailK C call lo n ops t2 F2 (H ++ [some ⟨i.zero.cells.toList, t, none⟩]) K
          | none => none
        | none => none
      | _ => none))
  else opsK C call lo n ops ops F H K
def prune (p : Nat → Bool) : Fr → Fr
  | [] => []
  | (k, v) :: r => bif p k then (k, v) :: prune p r else prune p r
def tidyF : List Nat → Fr → (Fr → Option α) → Option α
  | _, [], K => K []
  | seen, (k, v) :: r, K => bif seen.any (Nat.beq k) then tidyF seen r K else tidyF (k :: seen) r (fun r' => K ((k, v) :: r'))
def tidyH : Heap → (Heap → Option α) → Option α
  | [], K => K []
  | none :: r, K => tidyH r (fun r' => K (none :: r'))
  | some ⟨c, e, v⟩ :: r, K => tidyH r (fun r' => K (some ⟨c, e, v⟩ :: r'))
def loopK (body : Fr → Heap → (Exit → Fr → Heap → Option α) → Option α) : Nat → Fr → Heap → (Exit → Fr → Heap → Option α) → Option α
  | 0, _, _, _ => none
  | m + 1, F, H, K => tidyF [] F (fun F => tidyH H (fun H => body F H (fun e F' H' => match e with
    | .normal => loopK body m F' H' K
    | e => K e F' H')))
theorem tidyH_eq {K : Heap → Option α} : ∀ (H : Heap), tidyH H K = K H := by
  intro H
  induction H generalizing K with
  | nil => rfl
  | cons b r ih =>
    cases b with
    | none => simp only [tidyH, ih]
    | some b => obtain ⟨c, e, v⟩ := b; simp only [tidyH, ih]
theorem tidyF_spec {K : Fr → Option α} {x : α} : ∀ (seen : List Nat) (F : Fr), tidyF seen F K = some x → ∃ F', K F' = some x ∧ ∀ t v, Fr.get F' t = some v → seen.any (Nat.beq t) = false ∧ Fr.get F t = some v := by
  intro seen F
  induction F generalizing K seen with
  | nil => intro h; exact ⟨[], h, fun t v h => by cases h⟩
  | cons a r ih =>
    obtain ⟨k, v⟩ := a
    intro h
    unfold tidyF at h
    have swap : ∀ (l : List Nat) (a b : Nat), a = b → l.any (Nat.beq a) = l.any (Nat.beq b) := fun l a b h => by rw [h]
    cases hs : seen.any (Nat.beq k) with
    | true =>
      rw [hs, cond_true] at h
      obtain ⟨F', h1, h2⟩ := ih seen h
      refine ⟨F', h1, fun t u e => ?_⟩
      obtain ⟨h3, h4⟩ := h2 t u e
      refine ⟨h3, ?_⟩
      have : (k == t) = false := by
        cases hk : (k == t) with
        | false => rfl
        | true =>
          have : k = t := by simpa using hk
          rw [swap seen k t this, h3] at hs
          cases hs
      simp only [Fr.get, this, cond_false]
      exact h4
    | false =>
      rw [hs, cond_false] at h
      obtain ⟨F', h1, h2⟩ := ih (k :: seen) h
      refine ⟨(k, v) :: F', h1, fun t u e => ?_⟩
      simp only [Fr.get] at e ⊢
      cases hk : (k == t) with
      | true =>
        rw [hk] at e
        have : k = t := by simpa using hk
        exact ⟨by rw [← swap seen k t this]; exact hs, e⟩
      | false =>
        rw [hk, cond_false] at e
        obtain ⟨h3, h4⟩ := h2 t u e
        simp only [List.any_cons, Bool.or_eq_false_iff] at h3
        exact ⟨h3.2, h4⟩
def runK (C : Ctx) (call : Call α) (m lo n f : Nat) (p : Nat → Bool) : Code → Fr → Heap → (Exit → Fr → Heap → Option α) → Option α
  | .skip, F, H, K => K .normal F H
  | .region id ops draw, F, H, K => regionK C call lo n (C.dr f id) ops.toList draw (prune p F) H (fun F' H' => K .normal F' H')
  | .seq a b, F, H, K => runK C call m lo n f p a F H (fun e F' H' => match e with
    | .normal => runK C call m lo n f p b F' H' K
    | e => K e F' H')
  | .cond c a b, F, H, K => match arg F c with
    | some (.bool t) => bif t then runK C call m lo n f p a F H K else runK C call m lo n f p b F H K
    | _ => none
  | .block id c, F, H, K => runK C call m lo n f p c F H (fun e F' H' => match e with
    | .exit i => bif i == id then K .normal F' H' else K (.exit i) F' H'
    | e => K e F' H')
  | .loop c, F, H, K => loopK (fun F H K' => runK C call m lo n f p c F H K') m F H K
  | .exit id, F, H, K => K (.exit id) F H
  | .ret, F, H, K => K .ret F H
  | .label _, F, H, K => K .normal F H
  | _, _, _, _ => none
def enterF : Nat → List Value → Fr
  | _, [] => []
  | k, v :: r => (k, v) :: enterF (k + 1) r
def resA (T : Tab) (F : Fr) (H : Heap) : List ResultVar → Option (List Value)
  | [] => some []
  | .tmp t :: r => match F.get t with
    | some v => match resA T F H r with
      | some l => some (v :: l)
      | none => none
    | none => none
  | .cell a t :: r => match F.get a with
    | some x => match loadA T H t x with
      | some v => match resA T F H r with
        | some l => some (v :: l)
        | none => none
      | none => none
    | none => none
def tupleA : List Value → Value
  | [v] => v
  | l => .tuple l.toArray
def outA (C : Ctx) (fn : Func) (F : Fr) (H : Heap) (K : Value → Heap → Option α) : Option α :=
  match resA C.T F H fn.results.toList with
  | some l => K (tupleA l) H
  | none => none
def Ctx.at_ (C : Ctx) (f : FuncId) : Ctx := { C with gB := C.gh f }
def altK : List (Bool × Value × Heap) → (Value → Heap → Option α) → Option α
  | [], _ => none
  | (g, v, H') :: r, K => bif g then K v H' else altK r K
def callK (C : Ctx) : Nat → Call α
  | 0, _, _, _, _, _ => none
  | m + 1, lo, f, args, H, K => match C.Φ lo f args H with
    | some l => altK l K
    | none => match C.Fn f with
      | some fn => match fn.body with
        | some c => bif Nat.ble args.length fn.ntmps then runK (C.at_ f) (callK C m) m lo fn.ntmps f (C.keep f) c (enterF 0 args) H (fun e F' H' => match e with
            | .normal => outA C fn F' H' K
            | .ret => outA C fn F' H' K
            | _ => none) else none
        | none => none
      | none => none
end
def CallOK (P : Program) (lo : Nat) (f : FuncId) (args : List Value) (H : Heap) (v : Value) (H' : Heap) : Prop :=
  ∀ (M : Mp) (w : World) (rargs : List Value), Rel lo M H w → VRs M args rargs →
    Calls P f rargs.toArray w fun e w' => ∃ M' rv, e = .returned rv ∧ VR M' v rv ∧ Ext lo M w M' ∧ Rel lo M' H' w' ∧ Keep lo M w w'
def Enters (P : Program) (f : FuncId) : Prop := ∃ fn, P.funcs[f]? = some fn ∧ fn.name ≠ "runtime.NumGoroutine" ∧ fn.body.isSome = true
def drawOK (d : Draw) (ops : Array Oper) : Bool :=
  match d with
  | .quiet => Region.lexB .any ops
  | .tail s => Region.lexTailB .any ops s
  | .sched h t => Region.noSelect ops && (Nat.beq (h.length + t.length) ops.size && schedB .any ops h t (Array.replicate ops.size false))
  | .mix n h t => mixB ops n h t
  | .two r h t1 t2 => twoOK ops r h t1 t2
  | .one qs e t2 => oneOK ops qs e t2
def drawsOK (dr : Nat → Draw) : Code → Bool
  | .region id ops draw => !draw || drawOK (dr id) ops
  | .seq a b => drawsOK dr a && drawsOK dr b
  | .cond _ a b => drawsOK dr a && drawsOK dr b
  | .block _ c => drawsOK dr c
  | .loop c => drawsOK dr c
  | _ => true
structure CtxOK (P : Program) (C : Ctx) : Prop where
  tab : TabOK P C.T
  mix : P.follows .mixedOrders = true
  fn : ∀ f fn, C.Fn f = some fn → P.funcs[f]? = some fn ∧ fn.name ≠ "runtime.NumGoroutine" ∧ ∀ c, fn.body = some c → drawsOK (C.dr f) c = true
  known : ∀ lo f args H l v H', C.Φ lo f args H = some l → (true, v, H') ∈ l → CallOK P lo f args H v H' ∧ Enters P f
theorem CtxOK.at_ {P : Program} {C : Ctx} (h : CtxOK P C) (f : FuncId) : CtxOK P (C.at_ f) := ⟨h.tab, h.mix, h.fn, h.known⟩
def CallsOK (P : Program) {α : Type} (call : Call α) : Prop :=
  ∀ lo f args H K r, call lo f args H K = some r → ∃ v H', K v H' = some r ∧ CallOK P lo f args H v H' ∧ Enters P f
end Go.Proofs.YtgkicojmgokinaaGreatDoor.Ab
