/- The abstract layer, part 1: states and the evaluation of operations over them. No program in sight. -/
import Derived.Orders
import Derived.Below
import Derived.Deep.MidRow
import Derived.Laws.CopyRow
import Derived.Laws.AppendOwn
import Derived.OwnWalk
set_option linter.unusedVariables false
set_option linter.unusedSimpArgs false
namespace Go.Ab
open Go Go.RowKit

/-- What a slot is known to hold: a plain value; the address of a box of the call's own; a row (a slice whose elements are known); the address of a row's element; a value that is there if b; a tuple that begins with a row. -/
inductive V where
  | v (x : Value)
  | p (k off : Nat)
  | r (k : Nat)
  | e (k : Nat) (i : Int) (s off : Nat)
  | q (b : Bool) (x : V)
  | tr (k : Nat) (vs : List Value)
  | d

/-- A row: the type of its elements, cells per element, how many, the cells of each; may the call append to it? -/
structure Row where
  ty : TypeId
  size : Nat
  len : Nat
  get : Int → List Value
  own : Bool := false
  new : Bool := false

/-- How a type looks. -/
inductive DV where
  | st (fs : List (Nat × TypeId))
  | int (k : IntKind)
  | sl (e : TypeId)
  | str
  | bool
  | other
def DV.agg : DV → Bool
  | .st _ => true
  | _ => false

structure TInfo where
  size : Nat
  zero : List Value
  view : DV

/-- What is known of a frame and of memory. -/
structure St where
  t : List (Nat × V)
  b : List (Nat × Option (List V))
  x : List (Nat × Option Row)

def look {α : Type} : List (Nat × α) → Nat → Option α
  | [], _ => none
  | (k, v) :: l, n => if k = n then some v else look l n

/-- What a call hands back. -/
inductive RV where
  | v (x : Value)
  | row (r : Row)

structure Cx where
  P : Program
  τ : List (Nat × TInfo)
  Γ : FuncId → List V → Option (List RV)
  N : Nat
  eqs : List (Nat × List (Option IntKind)) := []
  rd : Bool := false

def alive : Option V → Option V
  | some .d => none
  | some (.q _ .d) => none
  | x => x

def ev (σ : St) : Operand → Option V
  | .tmp t => alive (look σ.t t)
  | .const v => some (.v v)
  | .func f => some (.v (.func (.func f) #[] #[]))
  | .global _ => none

def evs (σ : St) : List Operand → Option (List V)
  | [] => some []
  | x :: l =>
    match ev σ x with
    | some v =>
      match evs σ l with
      | some vs => some (v :: vs)
      | none => none
    | none => none

def bt (s : ByteArray) (i : Int) : Int := if h : i.toNat < s.size then ((s[i.toNat]'h).toNat : Int) else 0

def unq : V → V
  | .q _ x => x
  | x => x

/-- Where each guarded operand must be there. -/
def qobs : List V → Prop
  | [] => True
  | .q b _ :: l => b = true ∧ qobs l
  | _ :: l => qobs l

def opnds : Op → List Operand
  | .move x => [x]
  | .assign x => [x]
  | .box _ x => [x]
  | .load _ x => [x]
  | .unOp _ _ x => [x]
  | .convert _ _ x => [x]
  | .fieldAddr _ x _ => [x]
  | .field _ x _ => [x]
  | .extract x _ => [x]
  | .pick c a b => [c, a, b]
  | .binOp _ _ a b _ => [a, b]
  | .indexAddr _ a b => [a, b]
  | .index _ a b => [a, b]
  | .store _ a b => [a, b]
  | .build _ ps => ps.toList.map (·.2)
  | .buildSlice _ _ ps => ps.toList.map (·.2)
  | .call c => c.args.toList
  | .slice _ x l h _ => x :: (l.toList ++ h.toList)
  | _ => []

def a1 {β : Type} (l : List V) (f : V → Option β) : Option β :=
  match l with
  | x :: [] => f x
  | _ => none
def a2 {β : Type} (l : List V) (f : V → V → Option β) : Option β :=
  match l with
  | x :: y :: [] => f x y
  | _ => none
def a3 {β : Type} (l : List V) (f : V → V → V → Option β) : Option β :=
  match l with
  | x :: y :: z :: [] => f x y z
  | _ => none

def onInt {β : Type} (x : V) (f : IntKind → Int → Option β) : Option β :=
  match x with
  | .v (.int k n) => f k n
  | _ => none
def onBool {β : Type} (x : V) (f : Bool → Option β) : Option β :=
  match x with
  | .v (.bool b) => f b
  | _ => none

def pickV (c : Bool) : V → V → Option (Prop × V)
  | .v (.bool x), .v (.bool y) => some (True, .v (.bool (bif c then x else y)))
  | .q g (.v (.bool x)), .v (.bool y) => some (c = true → g = true, .v (.bool (bif c then x else y)))
  | .v (.bool x), .q g (.v (.bool y)) => some (c = false → g = true, .v (.bool (bif c then x else y)))
  | _, _ => none

def cmpI (o : BinOp) (a b : Int) : Option Bool :=
  match o with
  | .lss => some (decide (a < b))
  | .leq => some (decide (a ≤ b))
  | .gtr => some (decide (b < a))
  | .geq => some (decide (b ≤ a))
  | .eql => some (a == b)
  | .neq => some (a != b)
  | _ => none

def arithI (o : BinOp) (k : IntKind) (a b : Int) : Option (Prop × V) :=
  match o with
  | .add => some (True, .v (.int k (k.wrap (a + b))))
  | .sub => some (True, .v (.int k (k.wrap (a - b))))
  | .mul => some (True, .v (.int k (k.wrap (a * b))))
  | .quo => some (b ≠ 0, .v (.int k (k.wrap (a.tdiv b))))
  | .rem => some (b ≠ 0, .v (.int k (a.tmod b)))
  | o => (cmpI o a b).map fun c => (True, .v (.bool c))

/-- Structs are compared leaf by leaf. -/
def eqLeaves : List (Option IntKind) → List Value → List Value → Option Bool
  | [], [], [] => some true
  | some k :: ls, .int i a :: l, .int j b :: m =>
    if i = k ∧ j = k then
      match eqLeaves ls l m with
      | some c => some (a == b && c)
      | none => none
    else none
  | none :: ls, .bool a :: l, .bool b :: m =>
    match eqLeaves ls l m with
    | some c => some (a == b && c)
    | none => none
  | _, _, _ => none

def isView (c : Cx) (t : TypeId) (p : DV → Bool) : Bool :=
  match look c.τ t with
  | some ti => p ti.view
  | none => false
def DV.isSl : DV → Bool
  | .sl _ => true
  | _ => false
def DV.isStr : DV → Bool
  | .str => true
  | _ => false
def DV.isBool : DV → Bool
  | .bool => true
  | _ => false

def binV (c : Cx) (t : TypeId) (o : BinOp) (x y : V) : Option (Prop × V) :=
  match x, y with
  | .v (.int k a), .v (.int j b) => if k = j then arithI o k a b else none
  | .v (.string a), .v (.string b) =>
    match o with
    | .eql => some (True, .v (.bool (a.toList == b.toList)))
    | .neq => some (True, .v (.bool (!(a.toList == b.toList))))
    | .add => some (a.size + b.size ≤ 9223372036854775807, .v (.string (a ++ b)))
    | _ => none
  | .v (.bool a), .v (.bool b) =>
    if isView c t DV.isBool then
      match o with
      | .eql => some (True, .v (.bool (a == b)))
      | .neq => some (True, .v (.bool (!(a == b))))
      | _ => none
    else none
  | .v (.agg a), .v (.agg b) =>
    match look c.eqs t with
    | some ls =>
      match eqLeaves ls a.toList b.toList with
      | some r =>
        match o with
        | .eql => some (True, .v (.bool r))
        | .neq => some (True, .v (.bool (!r)))
        | _ => none
      | none => none
    | none => none
  | _, _ => none

def vals : List V → Option (List Value)
  | [] => some []
  | .v x :: l =>
    match vals l with
    | some xs => some (x :: xs)
    | none => none
  | _ => none

/-- A variable's value out of its cells. -/
def whole (ti : TInfo) (cs : List V) : Option V :=
  if ti.view.agg then
    if ti.size ≤ cs.length then
      match vals (cs.take ti.size) with
      | some l => some (.v (.agg l.toArray))
      | none => none
    else none
  else cs[0]?

def loadV (c : Cx) (t : TypeId) (rw : Option Row) (bx : Option (List V)) : V → Option (Prop × V)
  | .p _ off =>
    match look c.τ t, bx with
    | some ti, some cs => (whole ti (cs.drop off)).map fun v => (True, v)
    | _, _ => none
  | .e _ i s off =>
    match look c.τ t, rw with
    | some ti, some row => if s = row.size then (whole ti (((row.get i).drop off).map .v)).map fun v => (0 ≤ i ∧ i < row.len, v) else none
    | _, _ => none
  | _ => none

def fieldOf (c : Cx) (s : TypeId) (f : Nat) : Option (Nat × TypeId) :=
  match look c.τ s with
  | some ti =>
    match ti.view with
    | .st fs =>
      match fs[f]? with
      | some (off, ft) =>
        match look c.τ ft with
        | some tf => if tf.size = 0 then none else some (off, ft)
        | none => none
      | none => none
    | _ => none
  | none => none

/-- Are a slice type's elements of so many cells? -/
def slOf (c : Cx) (t : TypeId) (n : Nat) : Bool :=
  match look c.τ t with
  | some ti =>
    match ti.view with
    | .sl e =>
      match look c.τ e with
      | some te => te.size == n
      | none => false
    | _ => false
  | none => false

def lenV (c : Cx) (ts : List TypeId) (rw : Option Row) : V → Option (Prop × V)
  | .r _ => if isView c (ts.headD 0) DV.isSl then rw.map fun row => (True, .v (.int .i64 row.len)) else none
  | .v (.string s) => if isView c (ts.headD 0) DV.isStr then some (True, .v (.int .i64 s.size)) else none
  | _ => none

def builtinV (c : Cx) (ts : List TypeId) (b : Builtin) (args : List V) (rw : Option Row) : Option (Prop × V) :=
  match b with
  | .len => if ts.isEmpty then none else a1 args (lenV c ts rw)
  | .min => a2 args fun x y => onInt x fun k a => onInt y fun _ b => some (True, .v (.int k (if b < a then b else a)))
  | .max => a2 args fun x y => onInt x fun k a => onInt y fun _ b => some (True, .v (.int k (if b > a then b else a)))
  | _ => none

/-- A struct's cells, one field after another put in. -/
def fills (c : Cx) (t : TypeId) : List Value → List Nat → List V → Option (List Value)
  | cs, [], [] => some cs
  | cs, i :: is, x :: xs =>
    match fieldOf c t i with
    | some (off, ft) =>
      match look c.τ ft, x with
      | some ti, .v x =>
        if x.cells.toList.length = ti.size ∧ off + ti.size ≤ cs.length then fills c t (cs.take off ++ x.cells.toList ++ cs.drop (off + ti.size)) is xs else none
      | _, _ => none
    | none => none
  | _, _, _ => none

def unV (o : UnOp) (args : List V) : Option (Prop × V) :=
  match o with
  | .not => a1 args fun x => onBool x fun b => some (True, .v (.bool (!b)))
  | _ => none

def evalV (c : Cx) (op : Op) (args : List V) (rw : Option Row) (bx : Option (List V)) : Option (Prop × V) :=
  match op with
  | .move _ => a1 args fun x => some (True, x)
  | .assign _ => a1 args fun x => some (True, x)
  | .binOp o t _ _ _ => a2 args (binV c t o)
  | .unOp o _ _ => unV o args
  | .convert s d _ =>
    a1 args fun x => onInt x fun _ n =>
      match (look c.τ s).bind fun _ => look c.τ d with
      | some ti =>
        match ti.view with
        | .int k => some (True, .v (.int k (k.wrap n)))
        | _ => none
      | none => none
  | .fieldAddr s _ f =>
    a1 args fun x =>
      match fieldOf c s f, x, rw with
      | some (off, _), .p k o, _ => some (True, .p k (o + off))
      | some (off, _), .e k i z o, some row => some (0 ≤ i ∧ i < row.len, .e k i z (o + off))
      | _, _, _ => none
  | .indexAddr t _ _ =>
    a2 args fun x y => onInt y fun _ i =>
      match x, rw with
      | .r k, some row => if slOf c t row.size then some (0 ≤ i ∧ i < row.len, .e k i row.size 0) else none
      | _, _ => none
  | .index t _ _ =>
    a2 args fun x y => onInt y fun _ i =>
      match x with
      | .v (.string s) => if isView c t DV.isStr then some (0 ≤ i ∧ i < s.size, .v (.int .u8 (bt s i))) else none
      | _ => none
  | .load t _ => a1 args (loadV c t rw bx)
  | .extract _ i =>
    a1 args fun x =>
      match x with
      | .v (.tuple vs) => (vs.toList[i]?).map fun v => (True, .v v)
      | .tr k vs =>
        match i with
        | 0 => some (True, .r k)
        | i + 1 => (vs[i]?).map fun v => (True, .v v)
      | _ => none
  | .field s _ f =>
    a1 args fun x =>
      match fieldOf c s f, x with
      | some (off, ft), .v (.agg cs) =>
        match look c.τ ft with
        | some ti => (whole ti ((cs.toList.drop off).map .v)).map fun v => (True, v)
        | none => none
      | _, _ => none
  | .build t ps =>
    match look c.τ t with
    | some ti =>
      match ti.view with
      | .st fs => if fs.all fun p => (look c.τ p.2).isSome then (fills c t ti.zero (ps.toList.map (·.1)) args).map fun cs => (True, .v (.agg cs.toArray)) else none
      | _ => none
    | none => none
  | .call cl =>
    match cl.callee with
    | .builtin b => builtinV c cl.argTypes.toList b args rw
    | _ => none
  | _ => none

/-- What an operation does to the state. -/
structure Eff where
  val : Option V := none
  box : Option (Nat × List V) := none
  row : Option (Nat × Row) := none
  key : Option Nat := none


def rowOf (σ : St) : V → Option Row
  | .r k => (look σ.x k).bind id
  | .e k _ _ _ => (look σ.x k).bind id
  | _ => none
def boxOf (σ : St) : V → Option (List V)
  | .p k _ => (look σ.b k).bind id
  | _ => none
def keyOf : V → Option Nat
  | .p k _ => some k
  | _ => none
def heads {β : Type} (l : List V) (f : V → Option β) : Option β :=
  match l with
  | x :: _ => f x
  | [] => none

def RowOK (w : World) (v : Value) (R : Row) : Prop :=
  ∃ a c, v = .slice a R.len c ∧ R.len ≤ c ∧
    ∀ i : Nat, i < R.len → (R.get i).length = R.size ∧ ∃ b o, a = some ⟨b, o, none⟩ ∧ ∀ (j : Nat) (u : Value), (R.get i)[j]? = some u → w.cell? ⟨b, o + (i * R.size + j), none⟩ = some u

def argOK (w : World) : List V → List (Option Row) → List Value → Prop
  | [], [], [] => True
  | .v x :: l, _ :: rs, y :: ys => y = x ∧ argOK w l rs ys
  | .r _ :: l, some R :: rs, y :: ys => RowOK w y R ∧ argOK w l rs ys
  | _, _, _ => False

def retOK (w w' : World) : List RV → List Value → Prop
  | [], [] => True
  | .v x :: l, y :: ys => y = x ∧ retOK w w' l ys
  | .row R :: l, y :: ys => RowOK w' y R ∧ (∀ b, y.ownBlock = some b → w.heap.size ≤ b) ∧ retOK w w' l ys
  | _, _ => False

def retVal : List Value → Value
  | [x] => x
  | l => .tuple l.toArray

/-- A function's contract: at such arguments it hands back these values, and what lay lies as it lay. -/
def CallOK (P : Program) (f : FuncId) (args : List V) (rws : List (Option Row)) (ret : List RV) : Prop :=
  (∀ (ys : Array Value) (w : World), (callFunc f ys).run P w = .ok (.enter f ys) w) ∧ ∀ (ys : List Value) (w : World), argOK w args rws ys →
    Calls P f ys.toArray w fun e w' => ∃ zs, e = .returned (retVal zs) ∧ retOK w w' ret zs ∧ Below w.heap.size w w'

/-- May these be handed to a call? -/
def argable : List V → List (Option Row) → Bool
  | [], [] => true
  | .v _ :: l, _ :: rs => argable l rs
  | .r _ :: l, some _ :: rs => argable l rs
  | _, _ => false

def rvals : List RV → Option (List Value)
  | [] => some []
  | .v x :: l =>
    match rvals l with
    | some xs => some (x :: xs)
    | none => none
  | _ => none

def retV (d : Nat) (l : List RV) : Option Eff :=
  match l with
  | .row R :: [] => if R.size = 0 then none else some { val := some (.r d), row := some (d, { R with own := false, new := true }), key := some d }
  | .row R :: l =>
    match rvals l with
    | some xs => if R.size = 0 then none else some { val := some (.tr d xs), row := some (d, { R with own := false, new := true }), key := some d }
    | none => none
  | .v x :: [] => some { val := some (.v x) }
  | l =>
    match rvals l with
    | some xs => some { val := some (.v (.tuple xs.toArray)) }
    | none => none

/-- A value put into cells. -/
def cellsOf (ti : TInfo) (x : V) : Option (List V) :=
  if ti.view.agg then
    match x with
    | .v (.agg cs) => if cs.toList.length = ti.size && cs.toList.all (·.oneCell') then some (cs.toList.map .v) else none
    | _ => none
  else
    match x with
    | .v y => if y.oneCell' && ti.size == 1 then some [.v y] else none
    | _ => none

/-- A literal's elements, in order. -/
def lits (sz : Nat) : Nat → List Nat → List V → Option (List (List Value))
  | _, [], [] => some []
  | i, j :: js, .v x :: l =>
    if j = i ∧ x.cells.toList.length = sz then
      match lits sz (i + 1) js l with
      | some r => some (x.cells.toList :: r)
      | none => none
    else none
  | _, _, _ => none
def litRow (e : TypeId) (sz n : Nat) (ls : List (List Value)) : Row := { ty := e, size := sz, len := n, get := fun i => ls.getD i.toNat [], new := true }
def litE (c : Cx) (d : Nat) (t : TypeId) (n : Nat) (ix : List Nat) (args : List V) : Option Eff :=
  match look c.τ t with
  | some ti =>
    match ti.view with
    | .sl e =>
      match look c.τ e with
      | some te =>
        match lits te.size 0 ix args with
        | some ls => if te.size ≠ 0 ∧ n = ls.length ∧ n ≠ 0 ∧ n * te.size ≤ 16777216 then some { val := some (.r d), row := some (d, litRow e te.size n ls), key := some d } else none
        | none => none
      | none => none
    | _ => none
  | none => none

def stepE (c : Cx) (o : Oper) (raw : List V) (rws : List (Option Row)) (bx : Option (List V)) : Option (Prop × Eff) :=
  let args := raw.map unq
  match o.op with
  | .pick _ _ _ => a3 raw fun x y z => onBool (unq x) fun b => (pickV b y z).map fun r => (qobs [x] ∧ r.1, { val := some r.2 })
  | .box t _ =>
    match o.dst, look c.τ t with
    | some d, some ti => a1 args fun x => (cellsOf ti x).map fun cs => (qobs raw, { val := some (.p d 0), box := some (d, cs), key := some d })
    | _, _ => none
  | .alloc t =>
    match o.dst, look c.τ t with
    | some d, some ti => some (True, { val := some (.p d 0), box := some (d, ti.zero.map .v), key := some d })
    | _, _ => none
  | .buildSlice t n ps =>
    match o.dst with
    | some d => (litE c d t n (ps.toList.map (·.1)) args).map fun e => (qobs raw, e)
    | none => none
  | .store t _ _ =>
    match o.dst, look c.τ t, bx with
    | none, some ti, some cs =>
      a2 args fun x y =>
        match x with
        | .p k off =>
          (cellsOf ti y).bind fun us => if off + ti.size ≤ cs.length then some (qobs raw, { box := some (k, cs.take off ++ us ++ cs.drop (off + ti.size)) }) else none
        | _ => none
    | _, _, _ => none
  | .call cl =>
    match cl.callee with
    | .value (.func f) =>
      match o.dst, c.Γ f args with
      | some d, some ret => if argable args rws then (retV d ret).map fun e => (qobs raw ∧ CallOK c.P f args rws ret, e) else none
      | _, _ => none
    | _ => (evalV c o.op args ((rws[0]?).bind id) bx).map fun r => (qobs raw ∧ r.1, { val := some r.2 })
  | op => (evalV c op args ((rws[0]?).bind id) bx).map fun r => (qobs raw ∧ r.1, { val := some r.2 })

def mention (k : Nat) : V → Bool
  | .p j _ => j == k
  | .r j => j == k
  | .e j _ _ _ => j == k
  | .tr j _ => j == k
  | .q _ x => mention k x
  | .v _ => false
  | .d => false

def killT (k : Nat) : List (Nat × V) → List (Nat × V)
  | [] => []
  | (t, v) :: l => (t, if mention k v then .d else v) :: killT k l
def killB (k : Nat) : List (Nat × Option (List V)) → List (Nat × Option (List V))
  | [] => []
  | (j, cs) :: l => (j, if j == k || (cs.getD []).any (mention k) then none else cs) :: killB k l
def killX (k : Nat) : List (Nat × Option Row) → List (Nat × Option Row)
  | [] => []
  | (j, r) :: l => (j, if j == k then none else r) :: killX k l
def St.kill (σ : St) (k : Nat) : St := ⟨killT k σ.t, killB k σ.b, killX k σ.x⟩

def St.app (σ : St) (d : Option Tmp) (e : Eff) : St :=
  { t := match d, e.val with
      | some d, some v => (d, v) :: σ.t
      | _, _ => σ.t
    b := match e.box with
      | some (k, cs) => (k, some cs) :: σ.b
      | none => σ.b
    x := match e.row with
      | some (k, r) => (k, some r) :: σ.x
      | none => σ.x }

def guardOf (ops : List Oper) (σ : St) : Option (Nat × Bool) → Option (Option Bool)
  | none => some none
  | some (j, want) =>
    match (ops[j]?).bind (·.dst) with
    | some d =>
      match look σ.t d with
      | some (.v (.bool b)) => some (some (bif want then b else !b))
      | some (.q g (.v (.bool b))) => some (some (g && bif want then b else !b))
      | _ => none
    | none => none

def fits (N : Nat) : Option Tmp → Bool
  | some d => decide (d < N)
  | none => true

/-- One operation: what must hold, and what it does. -/
def step1 (c : Cx) (ops : List Oper) (o : Oper) (σ : St) : Option (Prop × Eff) :=
  match evs σ (opnds o.op) with
  | some raw =>
    match stepE c o raw (raw.map fun x => rowOf σ (unq x)) (heads raw fun x => boxOf σ (unq x)) with
    | some (ob, e) =>
      if fits c.N o.dst then
        match guardOf ops σ o.guard with
        | some none => some (ob, e)
        | some (some b) =>
          match e.val, e.box, e.row, e.key with
          | some v, none, none, none => some (b = true → ob, { val := some (.q b v) })
          | _, _, _, _ => none
        | none => none
      else none
    | none => none
  | none => none

def keysV : V → List Nat
  | .p k _ => [k]
  | .r k => [k]
  | .e k _ _ _ => [k]
  | .tr k _ => [k]
  | .q _ x => keysV x
  | .v _ => []
  | .d => []
def keysVs : List V → List (Nat × Bool)
  | [] => []
  | v :: l => (keysV v).map (fun k => (k, false)) ++ keysVs l

/-- Which keys an operation makes or writes (true), which it meets. -/
def keyInfo (σ : St) (o : Oper) (e : Eff) : List (Nat × Bool) :=
  (match e.box with
   | some (k, cs) => (k, true) :: keysVs cs
   | none => []) ++
  ((match e.row with
   | some (k, _) => [(k, true)]
   | none => []) ++
  ((match e.key with
   | some k => [(k, true)]
   | none => []) ++
  ((match e.val with
   | some v => keysVs [v]
   | none => []) ++
  (match evs σ (opnds o.op) with
   | some raw => keysVs raw
   | none => []))))

def unseenT (k : Nat) : List (Nat × V) → Bool
  | [] => true
  | (_, v) :: l => !mention k v && unseenT k l
def unseenB (k : Nat) : List (Nat × Option (List V)) → Bool
  | [] => true
  | (j, cs) :: l => j != k && !(cs.getD []).any (mention k) && unseenB k l
def unseenX (k : Nat) : List (Nat × Option Row) → Bool
  | [] => true
  | (j, _) :: l => j != k && unseenX k l
def St.unseen (σ : St) (k : Nat) : Bool := unseenT k σ.t && unseenB k σ.b && unseenX k σ.x

def St.forget (σ : St) : Option Nat → St
  | some k => σ.kill k
  | none => σ
def St.newOK (σ : St) : Option Nat → Bool
  | some k => σ.unseen k
  | none => true

/-- A region's operations in the text's order (a new key's old traces are forgotten). -/
def steps (c : Cx) (ops : List Oper) : List Oper → St → Option (Prop × St)
  | [], σ => some (True, σ)
  | o :: l, σ =>
    match step1 c ops o σ with
    | some (ob, e) =>
      match steps c ops l ((σ.forget e.key).app o.dst e) with
      | some (ob', σ') => some (ob ∧ ob', σ')
      | none => none
    | none => none

/-- A region that draws its order: no key may be known ahead of its making; what each reads and writes is told. -/
def dsteps (c : Cx) (ops : List Oper) : List Oper → St → Option (Prop × St × List (List (Nat × Bool)))
  | [], σ => some (True, σ, [])
  | o :: l, σ =>
    match step1 c ops o σ with
    | some (ob, e) =>
      if σ.newOK e.key then
        match dsteps c ops l (σ.app o.dst e) with
        | some (ob', σ', ks) => some (ob ∧ ob', σ', keyInfo σ o e :: ks)
        | none => none
      else none
    | none => none

/-- Which operations each waits for, through others, too: as bits. -/
def befores (ops : List Oper) : List Nat :=
  (ops.foldl (fun acc o => acc ++ [o.after.toList.foldl (fun s e => if Region.binds .any e then s ||| 2 ^ e.on ||| acc.getD e.on 0 else s) 0]) [])

/-- Slots that an operation looks at. -/
def reads (ops : List Oper) (o : Oper) : List Nat :=
  ((opnds o.op).filterMap fun x => match x with | .tmp t => some t | _ => none) ++
  (match o.guard with
   | some (j, _) => ((ops[j]?).bind (·.dst)).toList
   | none => [])

def clash (ops : List Oper) (o p : Oper) (ko kp : List (Nat × Bool)) : Bool :=
  (match o.dst with
   | some d => (reads ops p).contains d || p.dst == some d
   | none => false) ||
  (match p.dst with
   | some d => (reads ops o).contains d
   | none => false) ||
  ko.any fun x => kp.any fun y => x.1 == y.1 && (x.2 || y.2)

/-- Whoever clashes is ordered; and the order goes by the numbers. -/
def chk (ops : List Oper) (ks : List (List (Nat × Bool))) : Bool :=
  ((List.range ops.length).all fun j => (List.range j).all fun i =>
    match ops[i]?, ops[j]? with
    | some o, some p => !clash ops o p (ks.getD i []) (ks.getD j []) || ((befores ops).getD j 0).testBit i
    | _, _ => false) &&
  (List.range ops.length).all fun j =>
    match ops[j]? with
    | some o => o.after.toList.all fun e => !Region.binds .any e || decide (e.on < j)
    | none => false

end Go.Ab
