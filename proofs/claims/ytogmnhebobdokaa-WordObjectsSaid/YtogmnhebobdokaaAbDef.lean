/- The abstract layer, part 1: states and the evaluation of operations over them. No program in sight. -/
import Derived.Orders
import Derived.Below
import Derived.Deep.MidRow
import Derived.Laws.CopyRow
import Derived.Laws.AppendOwn
import Derived.OwnWalk
import Derived.RangeFuncNested
set_option linter.unusedVariables false
set_option linter.unusedSimpArgs false
namespace Go.Ab
open Go Go.RowKit

/-- What a slot is known to hold: a plain value; the address of a box of the call's own; a row (a slice whose elements are known); the address of a row's element; a value that is there if b; a tuple that begins with a row; the first n of a row; a closure over boxes. -/
inductive V where
  | v (x : Value)
  | p (k off : Nat)
  | r (k : Nat)
  | s (k n : Nat)
  | e (k : Nat) (i : Int) (s off : Nat)
  | q (b : Bool) (x : V)
  | tr (k : Nat) (vs : List Value)
  | c (f : Nat) (ks : List Nat)
  | d

/-- A row: the type of its elements, cells per element, how many, the cells of each; may the call append to it? -/
structure Row where
  ty : TypeId
  size : Nat
  len : Nat
  get : Int → List Value
  own : Bool := false
  new : Bool := false
  sp : Option (List (List Value)) := none
def AL : Option Row → Option Row
  | some R => match R.sp with
    | some _ => none
    | none => some R
  | none => none

/-- How a type looks. -/
inductive DV where
  | st (fs : List (Nat × TypeId))
  | int (k : IntKind)
  | sl (e : TypeId)
  | str
  | bool
  | fn
  | other
def DV.agg : DV → Bool
  | .st _ => true
  | _ => false

structure TInfo where
  size : Nat
  zero : List Value
  view : DV

/-- What is known of a frame and of memory. -/
structure St where
  t : List (Nat × V)
  b : List (Nat × Option (List V))
  x : List (Nat × Option Row)

def CS {α : Type} : List (Nat × α) → Nat → Option α
  | [], _ => none
  | (k, v) :: l, n => if k = n then some v else CS l n

/-- What a call hands back. -/
inductive RV where
  | v (x : Value)
  | row (r : Row)

structure Cx where
  P : Program
  τ : List (Nat × TInfo)
  Γ : FuncId → List V → Option (List RV)
  N : Nat
  eqs : List (Nat × List (Option IntKind)) := []
  byt : List (Nat × Nat) := []
  rd : Bool := false
  it : Bool := false
  fz : List Nat := []
  ro : List Nat := []
  ys : List (List Value) := []
  yl : Nat := 0

def CR : Option V → Option V
  | some .d => none
  | some (.q _ .d) => none
  | x => x

def CP (σ : St) : Operand → Option V
  | .tmp t => CR (CS σ.t t)
  | .const v => some (.v v)
  | .func f => some (.v (.func (.func f) #[] #[]))
  | .global _ => none

def CO (σ : St) : List Operand → Option (List V)
  | [] => some []
  | x :: l =>
    match CP σ x with
    | some v =>
      match CO σ l with
      | some vs => some (v :: vs)
      | none => none
    | none => none

def bt (s : ByteArray) (i : Int) : Int := if h : i.toNat < s.size then ((s[i.toNat]'h).toNat : Int) else 0

def CU : V → V
  | .q _ x => x
  | x => x

/-- Where each guarded operand must be there. -/
def CV : List V → Prop
  | [] => True
  | .q b _ :: l => b = true ∧ CV l
  | _ :: l => CV l

def CT : Op → List Operand
  | .move x => [x]
  | .assign x => [x]
  | .box _ x => [x]
  | .load _ x => [x]
  | .unOp _ _ x => [x]
  | .convert _ _ x => [x]
  | .fieldAddr _ x _ => [x]
  | .field _ x _ => [x]
  | .extract x _ => [x]
  | .pick c a b => [c, a, b]
  | .binOp _ _ a b _ => [a, b]
  | .indexAddr _ a b => [a, b]
  | .index _ a b => [a, b]
  | .store _ a b => [a, b]
  | .build _ ps => ps.toList.map (·.2)
  | .buildSlice _ _ ps => ps.toList.map (·.2)
  | .call c => (match c.callee with | .value (.tmp t) => [.tmp t] | _ => []) ++ c.args.toList
  | .makeFunc _ a b => a.toList ++ b.toList
  | .slice _ x l h m => x :: (l.toList ++ h.toList ++ m.toList)
  | _ => []

def CW {β : Type} (l : List V) (f : V → Option β) : Option β :=
  match l with
  | x :: [] => f x
  | _ => none
def CX {β : Type} (l : List V) (f : V → V → Option β) : Option β :=
  match l with
  | x :: y :: [] => f x y
  | _ => none
def CY {β : Type} (l : List V) (f : V → V → V → Option β) : Option β :=
  match l with
  | x :: y :: z :: [] => f x y z
  | _ => none

def CZ {β : Type} (x : V) (f : IntKind → Int → Option β) : Option β :=
  match x with
  | .v (.int k n) => f k n
  | _ => none
def D0 {β : Type} (x : V) (f : Bool → Option β) : Option β :=
  match x with
  | .v (.bool b) => f b
  | _ => none

def D1 (c : Bool) : V → V → Option (Prop × V)
  | .v (.bool x), .v (.bool y) => some (True, .v (.bool (bif c then x else y)))
  | .q g (.v (.bool x)), .v (.bool y) => some (c = true → g = true, .v (.bool (bif c then x else y)))
  | .v (.bool x), .q g (.v (.bool y)) => some (c = false → g = true, .v (.bool (bif c then x else y)))
  | _, _ => none

def D2 (o : BinOp) (a b : Int) : Option Bool :=
  match o with
  | .lss => some (decide (a < b))
  | .leq => some (decide (a ≤ b))
  | .gtr => some (decide (b < a))
  | .geq => some (decide (b ≤ a))
  | .eql => some (a == b)
  | .neq => some (a != b)
  | _ => none

def D3 (o : BinOp) (k : IntKind) (a b : Int) : Option (Prop × V) :=
  match o with
  | .add => some (True, .v (.int k (k.wrap (a + b))))
  | .sub => some (True, .v (.int k (k.wrap (a - b))))
  | .mul => some (True, .v (.int k (k.wrap (a * b))))
  | .quo => some (b ≠ 0, .v (.int k (k.wrap (a.tdiv b))))
  | .rem => some (b ≠ 0, .v (.int k (a.tmod b)))
  | o => (D2 o a b).map fun c => (True, .v (.bool c))

/-- Structs are compared leaf by leaf. -/
def D6 : List (Option IntKind) → List Value → List Value → Option Bool
  | [], [], [] => some true
  | some k :: ls, .int i a :: l, .int j b :: m =>
    if i = k ∧ j = k then
      match D6 ls l m with
      | some c => some (a == b && c)
      | none => none
    else none
  | none :: ls, .bool a :: l, .bool b :: m =>
    match D6 ls l m with
    | some c => some (a == b && c)
    | none => none
  | _, _, _ => none

def D7 (c : Cx) (t : TypeId) (p : DV → Bool) : Bool :=
  match CS c.τ t with
  | some ti => p ti.view
  | none => false
def DV.isSl : DV → Bool
  | .sl _ => true
  | _ => false
def DV.isStr : DV → Bool
  | .str => true
  | _ => false
def DV.isFn : DV → Bool
  | .fn => true
  | _ => false
def DV.isBool : DV → Bool
  | .bool => true
  | _ => false

def D4 (c : Cx) (t : TypeId) (o : BinOp) (x y : V) : Option (Prop × V) :=
  match x, y with
  | .v (.int k a), .v (.int j b) => if k = j then D3 o k a b else none
  | .v (.string a), .v (.string b) =>
    match o with
    | .eql => some (True, .v (.bool (a.toList == b.toList)))
    | .neq => some (True, .v (.bool (!(a.toList == b.toList))))
    | .add => some (a.size + b.size ≤ 9223372036854775807, .v (.string (a ++ b)))
    | _ => none
  | .v (.bool a), .v (.bool b) =>
    if D7 c t DV.isBool then
      match o with
      | .eql => some (True, .v (.bool (a == b)))
      | .neq => some (True, .v (.bool (!(a == b))))
      | _ => none
    else none
  | .v (.agg a), .v (.agg b) =>
    match CS c.eqs t with
    | some ls =>
      match D6 ls a.toList b.toList with
      | some r =>
        match o with
        | .eql => some (True, .v (.bool r))
        | .neq => some (True, .v (.bool (!r)))
        | _ => none
      | none => none
    | none => none
  | _, _ => none

def D9 : List V → Option (List Value)
  | [] => some []
  | .v x :: l =>
    match D9 l with
    | some xs => some (x :: xs)
    | none => none
  | _ => none

/-- A variable's value out of its cells. -/
def DA (ti : TInfo) (cs : List V) : Option V :=
  if ti.view.agg then
    if ti.size ≤ cs.length then
      match D9 (cs.take ti.size) with
      | some l => some (.v (.agg l.toArray))
      | none => none
    else none
  else cs[0]?

def DB (c : Cx) (t : TypeId) (rw : Option Row) (bx : Option (List V)) : V → Option (Prop × V)
  | .p _ off =>
    match CS c.τ t, bx with
    | some ti, some cs => (DA ti (cs.drop off)).map fun v => (True, v)
    | _, _ => none
  | .e _ i s off =>
    match CS c.τ t, rw with
    | some ti, some row => if s = row.size then (DA ti (((row.get i).drop off).map .v)).map fun v => (0 ≤ i ∧ i < row.len, v) else none
    | _, _ => none
  | _ => none

def DC (c : Cx) (s : TypeId) (f : Nat) : Option (Nat × TypeId) :=
  match CS c.τ s with
  | some ti =>
    match ti.view with
    | .st fs =>
      match fs[f]? with
      | some (off, ft) =>
        match CS c.τ ft with
        | some tf => if tf.size = 0 then none else some (off, ft)
        | none => none
      | none => none
    | _ => none
  | none => none

/-- Are a slice type's elements of so many cells? -/
def D8 (c : Cx) (t : TypeId) (n : Nat) : Bool :=
  match CS c.τ t with
  | some ti =>
    match ti.view with
    | .sl e =>
      match CS c.τ e with
      | some te => te.size == n
      | none => false
    | _ => false
  | none => false

def DD (c : Cx) (ts : List TypeId) (rw : Option Row) : V → Option (Prop × V)
  | .r _ => if D7 c (ts.headD 0) DV.isSl then rw.map fun row => (True, .v (.int .i64 row.len)) else none
  | .v (.string s) => if D7 c (ts.headD 0) DV.isStr then some (True, .v (.int .i64 s.size)) else none
  | .v (.slice _ n _) => if D7 c (ts.headD 0) DV.isSl then some (True, .v (.int .i64 n)) else none
  | _ => none

def DE (c : Cx) (ts : List TypeId) (b : Builtin) (args : List V) (rw : Option Row) : Option (Prop × V) :=
  match b with
  | .len => if ts.isEmpty then none else CW args (DD c ts rw)
  | .min => CX args fun x y => CZ x fun k a => CZ y fun _ b => some (True, .v (.int k (if b < a then b else a)))
  | .max => CX args fun x y => CZ x fun k a => CZ y fun _ b => some (True, .v (.int k (if b > a then b else a)))
  | _ => none

/-- A struct's cells, one field after another put in. -/
def DF (c : Cx) (t : TypeId) : List Value → List Nat → List V → Option (List Value)
  | cs, [], [] => some cs
  | cs, i :: is, x :: xs =>
    match DC c t i with
    | some (off, ft) =>
      match CS c.τ ft, x with
      | some ti, .v x =>
        if x.cells.toList.length = ti.size ∧ off + ti.size ≤ cs.length then DF c t (cs.take off ++ x.cells.toList ++ cs.drop (off + ti.size)) is xs else none
      | _, _ => none
    | none => none
  | _, _, _ => none

/-- A function value is held against nil. -/
def AM (c : Cx) (t : TypeId) (o : BinOp) (x y : V) (rw : Option Row) : Option (Prop × V) :=
  match x, y, rw with
  | .r _, .v .nilFunc, some R =>
    match R.sp with
    | some _ =>
      match o with
      | .eql => if D7 c t DV.isFn then some (True, .v (.bool false)) else none
      | _ => none
    | none => none
  | _, _, _ => none

def AN : List V → Option (List Nat)
  | [] => some []
  | .p k 0 :: l =>
    match AN l with
    | some ks => some (k :: ks)
    | none => none
  | _ => none

def AO (c : Cx) (t : TypeId) (lo hi mx : Bool) (rw : Option Row) (args : List V) : Option (Prop × V) :=
  match lo, hi, mx, args with
  | true, true, false, [.v (.string s), .v (.int _ l), .v (.int _ h)] => if D7 c t DV.isStr then some (0 ≤ l ∧ l ≤ h ∧ h ≤ s.size, .v (.string (s.extract l.toNat h.toNat))) else none
  | false, true, false, [.v (.string s), .v (.int _ h)] => if D7 c t DV.isStr then some (0 ≤ h ∧ h ≤ s.size, .v (.string (s.extract 0 h.toNat))) else none
  | true, false, false, [.v (.string s), .v (.int _ l)] => if D7 c t DV.isStr then some (0 ≤ l ∧ l ≤ s.size, .v (.string (s.extract l.toNat s.size))) else none
  | false, true, false, [.r k, .v (.int _ h)] =>
    match rw with
    | some R => if D8 c t R.size then some (0 ≤ h ∧ h ≤ R.len, .s k h.toNat) else none
    | none => none
  | _, _, _, _ => none

def D5 (o : UnOp) (args : List V) : Option (Prop × V) :=
  match o with
  | .not => CW args fun x => D0 x fun b => some (True, .v (.bool (!b)))
  | _ => none

/-- One byte in a row, made a string. -/
def B7 (c : Cx) (s d : TypeId) (rw : Option Row) (args : List V) : Option (Prop × V) :=
  match args, rw with
  | [.r _], some R =>
    match (CS c.τ s).map (·.view), (CS c.τ d).map (·.view) with
    | some (DV.sl e), some DV.str =>
      match (CS c.τ e).map (·.view) with
      | some (DV.int .u8) =>
        if R.size == 1 && R.len == 1 then
          match R.get 0 with
          | [.int .u8 n] => some (True, .v (.string ⟨#[UInt8.ofNat n.toNat]⟩))
          | _ => none
        else none
      | _ => none
    | _, _ => none
  | _, _ => none

def CN (c : Cx) (op : Op) (args : List V) (rw : Option Row) (bx : Option (List V)) : Option (Prop × V) :=
  match op with
  | .move _ => CW args fun x => some (True, x)
  | .assign _ => CW args fun x => some (True, x)
  | .binOp o t _ _ _ => CX args fun x y =>
    match D4 c t o x y with
    | some r => some r
    | none => AM c t o x y rw
  | .makeFunc fn first _ =>
    match fn, first.isEmpty with
    | .func f, true => (AN args).map fun ks => (True, .c f ks)
    | _, _ => none
  | .slice t _ lo hi mx => AO c t lo.isSome hi.isSome mx.isSome (AL rw) args
  | .unOp o _ _ => D5 o args
  | .convert s d _ =>
    match B7 c s d (AL rw) args with
    | some r => some r
    | none => CW args fun x => CZ x fun _ n =>
      match (CS c.τ s).bind fun _ => CS c.τ d with
      | some ti =>
        match ti.view with
        | .int k => some (True, .v (.int k (k.wrap n)))
        | _ => none
      | none => none
  | .fieldAddr s _ f =>
    CW args fun x =>
      match DC c s f, x, AL rw with
      | some (off, _), .p k o, _ => some (True, .p k (o + off))
      | some (off, _), .e k i z o, some row => some (0 ≤ i ∧ i < row.len, .e k i z (o + off))
      | _, _, _ => none
  | .indexAddr t _ _ =>
    CX args fun x y => CZ y fun _ i =>
      match x, AL rw with
      | .r k, some row => if D8 c t row.size then some (0 ≤ i ∧ i < row.len, .e k i row.size 0) else none
      | _, _ => none
  | .index t _ _ =>
    CX args fun x y => CZ y fun _ i =>
      match x with
      | .v (.string s) => if D7 c t DV.isStr then some (0 ≤ i ∧ i < s.size, .v (.int .u8 (bt s i))) else none
      | _ => none
  | .load t _ => CW args (DB c t (AL rw) bx)
  | .extract _ i =>
    CW args fun x =>
      match x with
      | .v (.tuple vs) => (vs.toList[i]?).map fun v => (True, .v v)
      | .tr k vs =>
        match i with
        | 0 => some (True, .r k)
        | i + 1 => (vs[i]?).map fun v => (True, .v v)
      | _ => none
  | .field s _ f =>
    CW args fun x =>
      match DC c s f, x with
      | some (off, ft), .v (.agg cs) =>
        match CS c.τ ft with
        | some ti => (DA ti ((cs.toList.drop off).map .v)).map fun v => (True, v)
        | none => none
      | _, _ => none
  | .build t ps =>
    match CS c.τ t with
    | some ti =>
      match ti.view with
      | .st fs => if fs.all fun p => (CS c.τ p.2).isSome then (DF c t ti.zero (ps.toList.map (·.1)) args).map fun cs => (True, .v (.agg cs.toArray)) else none
      | _ => none
    | none => none
  | .call cl =>
    match cl.callee with
    | .builtin b => DE c cl.argTypes.toList b args (AL rw)
    | _ => none
  | _ => none

/-- What an operation does to the state. -/
structure Eff where
  val : Option V := none
  box : Option (Nat × List V) := none
  row : Option (Nat × Row) := none
  key : Option Nat := none
  lose : Option Nat := none

def DG (σ : St) : V → Option Row
  | .r k => (CS σ.x k).bind id
  | .s k _ => (CS σ.x k).bind id
  | .e k _ _ _ => (CS σ.x k).bind id
  | _ => none
def DH (σ : St) : V → Option (List V)
  | .p k _ => (CS σ.b k).bind id
  | _ => none
def DI : V → Option Nat
  | .p k _ => some k
  | _ => none
def DM {β : Type} (l : List V) (f : V → Option β) : Option β :=
  match l with
  | x :: _ => f x
  | [] => none

/-- Everything may be called; in a round, or not. -/
def Fw (l : Option Nat) : Fence := { Fence.wide with round := l }

/-- From A to B: the blocks M alone have turned; and from M to M' new blocks alone have come. -/
structure Turns (M M' : Nat → Prop) (A B : World) : Prop where
  os : B.os = A.os
  tape : B.tape = A.tape
  output : B.output = A.output
  size : A.heap.size ≤ B.heap.size
  block : ∀ b, b < A.heap.size → ¬ M b → B.heap[b]? = A.heap[b]?
  more : ∀ b, M' b → M b ∨ A.heap.size ≤ b

/-- v is a function over yield that hands it xs, one behind another, till it says no; it reads the blocks U alone of what lay. -/
def SeqOK (P : Program) (U : Nat → Prop) (w : World) (v : Value) (xs : List (List Value)) : Prop :=
  ∃ gf lb, v = .func (.func gf) #[] lb ∧ (∀ (ys : Array Value) (w : World), (callFunc gf ys).run P w = .ok (.enter gf ys) w) ∧
  ∀ (W : World), (∀ b, U b → b < W.heap.size ∧ W.heap[b]? = w.heap[b]?) → ∀ (l : Nat) (J : Nat → (Nat → Prop) → World → Prop) (Jx : World → Prop),
    (∀ i M A B, J i M A → Below A.heap.size A B → J i M B) → (∀ A B, Jx A → Below A.heap.size A B → Jx B) → (∀ i M A, J i M A → ∀ b, M b → b < A.heap.size) →
    (∀ i M A x, xs[i]? = some x → J i M A → YieldAt (Fw none) 0 P l x.toArray A fun e B =>
      (e = .returned (.bool true) ∧ ∃ M', J (i + 1) M' B ∧ Turns M M' A B) ∨ (e = .returned (.bool false) ∧ Jx B ∧ ∃ M', (∀ b, M' b → b < B.heap.size) ∧ Turns M M' A B)) →
    ∀ M, J 0 M W → (∀ b, M b → ¬ U b) →
      CallsIn (Fw none) 0 P gf (#[.func (.yield l) #[] #[]] ++ lb) W fun e B => (∃ v, e = .returned v) ∧ ((∃ M, J xs.length M B) ∨ Jx B)

def SliceOK (w : World) (v : Value) (R : Row) : Prop :=
  ∃ a c, v = .slice a R.len c ∧ R.len ≤ c ∧
    ∀ i : Nat, i < R.len → (R.get i).length = R.size ∧ ∃ b o, a = some ⟨b, o, none⟩ ∧ ∀ (j : Nat) (u : Value), (R.get i)[j]? = some u → w.cell? ⟨b, o + (i * R.size + j), none⟩ = some u
def SpOK (P : Program) (w : World) (v : Value) (xs : List (List Value)) (U : Nat → Prop) : Prop :=
  ∃ w1, SeqOK P U w1 v xs ∧ ∀ b, U b → ∃ o, w.heap[b]? = some o ∧ o.isCells = true ∧ w1.heap[b]? = some o
def RowOK (P : Program) (w : World) (v : Value) (R : Row) : Prop :=
  (R.sp = none → SliceOK w v R) ∧ ∀ xs, R.sp = some xs → ∃ U, SpOK P w v xs U

def argOK (P : Program) (w : World) : List V → List (Option Row) → List Value → Prop
  | [], [], [] => True
  | .v x :: l, _ :: rs, y :: ys => y = x ∧ argOK P w l rs ys
  | .r _ :: l, some R :: rs, y :: ys => RowOK P w y R ∧ argOK P w l rs ys
  | .p _ off :: l, some R :: rs, y :: ys => (∃ b v T, y = .pointer (some ⟨b, off, none⟩) ∧ w.heap[b]? = some (.cells #[v] T (0, 0)) ∧ off = 0 ∧ RowOK P w v R) ∧ argOK P w l rs ys
  | _, _, _ => False

/-- The block that a slice that is not empty lies in. -/
def AV : Value → Option Nat
  | .slice (some a) (_ + 1) _ => some a.block
  | _ => none

def retOK (P : Program) (ys : List Value) (w w' : World) : List RV → List Value → Prop
  | [], [] => True
  | .v x :: l, z :: zs => z = x ∧ retOK P ys w w' l zs
  | .row R :: l, z :: zs => ((R.sp = none → SliceOK w' z R) ∧ (∀ xs, R.sp = some xs → ∃ U, SpOK P w' z xs U ∧ ∀ b, U b → w.heap.size ≤ b ∨ ∃ y ∈ ys, AV y = some b)) ∧
      (R.len ≠ 0 → ∀ b, z.ownBlock = some b → w.heap.size ≤ b ∧ b < w'.heap.size) ∧ retOK P ys w w' l zs
  | _, _ => False

def retVal : List Value → Value
  | [x] => x
  | l => .tuple l.toArray

/-- A function's contract: at such arguments it hands back these values, and what lay lies as it lay. -/
def CallOK (P : Program) (f : FuncId) (args : List V) (rws : List (Option Row)) (ret : List RV) : Prop :=
  (∀ (ys : Array Value) (w : World), (callFunc f ys).run P w = .ok (.enter f ys) w) ∧ ∀ (ys : List Value) (w : World), argOK P w args rws ys →
    Calls P f ys.toArray w fun e w' => ∃ zs, e = .returned (retVal zs) ∧ retOK P ys w w' ret zs ∧ Below w.heap.size w w'

/-- May these be handed to a call? -/
def DN : List V → List (Option Row) → Bool
  | [], [] => true
  | .v _ :: l, _ :: rs => DN l rs
  | .r _ :: l, some _ :: rs => DN l rs
  | .p _ 0 :: l, some _ :: rs => DN l rs
  | _, _ => false
/-- As an argument the first n of a row are a row. -/
def AP : V → V
  | .s k _ => .r k
  | x => x
def AQ : List V → List (Option Row) → List (Option Row)
  | .s _ n :: l, some R :: rs => some { R with len := n, own := false } :: AQ l rs
  | _ :: l, r :: rs => r :: AQ l rs
  | _, _ => []
/-- They are no longer than these. -/
def AR : List V → List (Option Row) → Prop
  | .s _ n :: l, some R :: rs => (n ≤ R.len ∧ R.sp = none) ∧ AR l rs
  | _ :: l, _ :: rs => AR l rs
  | _, _ => True
/-- Does a function hand back plain rows alone; or was it handed old ones? -/
def AS : List RV → Bool
  | [] => true
  | .v _ :: l => AS l
  | .row R :: l => R.sp.isNone && AS l
def AU (l : List V) : Bool := l.all fun x => match x with
  | .p _ _ => false
  | _ => true
def AT : List V → List (Option Row) → Bool
  | [], [] => true
  | .v x :: l, _ :: rs => (AV x).isNone && AT l rs
  | .r _ :: l, some R :: rs => !R.new && AT l rs
  | _, _ => false

def DO : List RV → Option (List Value)
  | [] => some []
  | .v x :: l =>
    match DO l with
    | some xs => some (x :: xs)
    | none => none
  | _ => none

def DP (d : Nat) (l : List RV) : Option Eff :=
  match l with
  | .row R :: [] => if R.size = 0 then none else some { val := some (.r d), row := some (d, { R with own := false, new := true }), key := some d }
  | .row R :: l =>
    match DO l with
    | some xs => if R.size = 0 then none else some { val := some (.tr d xs), row := some (d, { R with own := false, new := true }), key := some d }
    | none => none
  | .v x :: [] => some { val := some (.v x) }
  | l =>
    match DO l with
    | some xs => some { val := some (.v (.tuple xs.toArray)) }
    | none => none

/-- A value put into cells. -/
def DQ (ti : TInfo) (x : V) (rw : Option Row) : Option (List V) :=
  if ti.view.agg then
    match x with
    | .v (.agg cs) => if cs.toList.length = ti.size && cs.toList.all (·.oneCell') then some (cs.toList.map .v) else none
    | _ => none
  else
    match x with
    | .v y => if y.oneCell' && ti.size == 1 then some [.v y] else none
    | .r k =>
      match AL rw with
      | some _ => if ti.size == 1 then some [.r k] else none
      | none => none
    | _ => none

/-- A literal's elements, in order. -/
def CD (sz : Nat) : Nat → List Nat → List V → Option (List (List Value))
  | _, [], [] => some []
  | i, j :: js, .v x :: l =>
    if j = i ∧ x.cells.toList.length = sz then
      match CD sz (i + 1) js l with
      | some r => some (x.cells.toList :: r)
      | none => none
    else none
  | _, _, _ => none
def CF (e : TypeId) (sz n : Nat) (ls : List (List Value)) : Row := { ty := e, size := sz, len := n, get := fun i => ls.getD i.toNat [], own := true, new := true }
def CE (c : Cx) (d : Nat) (t : TypeId) (n : Nat) (ix : List Nat) (args : List V) : Option Eff :=
  match CS c.τ t with
  | some ti =>
    match ti.view with
    | .sl e =>
      match CS c.τ e with
      | some te =>
        match CD te.size 0 ix args with
        | some ls => if te.size ≠ 0 ∧ n = ls.length ∧ n ≠ 0 ∧ n * te.size ≤ 16777216 then some { val := some (.r d), row := some (d, CF e te.size n ls), key := some d } else none
        | none => none
      | none => none
    | _ => none
  | none => none

/-- One element more. -/
def AY (R : Row) (x : List Value) : Row := { R with len := R.len + 1, get := fun i => if i = R.len then x else R.get i, own := true, new := true }
def AX (R : Row) (i : Int) (x : List Value) : Row := { R with get := fun j => if j = i then x else R.get j }
def AZ (c : Cx) (t : TypeId) : Option TypeId :=
  match CS c.τ t with
  | some ti =>
    match ti.view with
    | .sl e => some e
    | _ => none
  | none => none
def B0 (c : Cx) (d : Nat) (ts : List TypeId) (args : List V) (rws : List (Option Row)) : Option (Prop × Eff) :=
  match args, rws, ts with
  | [.r k, .r _], [some R, some S], [t, t'] =>
    match AZ c t with
    | some e =>
      match CS c.byt e, CS c.τ e, R.sp, S.sp with
      | some bt, some te, none, none =>
        if !c.it && t == t' && R.own && R.ty == e && R.size == te.size && S.size == te.size && S.len == 1 && te.zero.length == te.size && te.size != 0 && bt != 0 && (S.get 0).all (·.oneCell') then
          some ((R.len + 1) * bt ≤ 140737488355328, { val := some (.r d), row := some (d, AY R (S.get 0)), key := some d, lose := some k })
        else none
      | _, _, _, _ => none
    | none => none
  | _, _, _ => none

def CM (c : Cx) (o : Oper) (raw : List V) (rws : List (Option Row)) (bx : Option (List V)) : Option (Prop × Eff) :=
  let args := raw.map CU
  match o.op with
  | .pick _ _ _ => CY raw fun x y z => D0 (CU x) fun b => (D1 b y z).map fun r => (CV [x] ∧ r.1, { val := some r.2 })
  | .box t _ =>
    match o.dst, CS c.τ t with
    | some d, some ti => CW args fun x => (DQ ti x ((rws[0]?).bind id)).map fun cs => (CV raw, { val := some (.p d 0), box := some (d, cs), key := some d })
    | _, _ => none
  | .alloc t =>
    match o.dst, CS c.τ t with
    | some d, some ti => some (True, { val := some (.p d 0), box := some (d, ti.zero.map .v), key := some d })
    | _, _ => none
  | .buildSlice t n ps =>
    match o.dst with
    | some d => (CE c d t n (ps.toList.map (·.1)) args).map fun e => (CV raw, e)
    | none => none
  | .store t _ _ =>
    match o.dst, CS c.τ t with
    | none, some ti =>
      CX args fun x y =>
        match x, bx, AL ((rws[0]?).bind id) with
        | .p k off, some cs, _ =>
          if c.it || c.ro.contains k then none
          else (DQ ti y ((rws[1]?).bind id)).bind fun us => if off + ti.size ≤ cs.length then some (CV raw, { box := some (k, cs.take off ++ us ++ cs.drop (off + ti.size)) }) else none
        | .e k i s off, none, some R =>
          if !c.it && R.own && s == R.size then
            (DQ ti y none).bind fun us => (D9 us).bind fun us => if off + ti.size ≤ R.size then some (CV raw ∧ 0 ≤ i ∧ i < R.len, { row := some (k, AX R i ((R.get i).take off ++ us ++ (R.get i).drop (off + ti.size))) }) else none
          else none
        | _, _, _ => none
    | _, _ => none
  | .call cl =>
    match cl.callee with
    | .value (.func f) =>
      match o.dst, c.Γ f (args.map AP) with
      | some d, some ret => if AU args && DN (args.map AP) (AQ args rws) && (AS ret || AT args rws) then (DP d ret).map fun e => (CV raw ∧ AR args rws ∧ CallOK c.P f (args.map AP) (AQ args rws) ret, e) else none
      | _, _ => none
    | .builtin .append =>
      match o.dst with
      | some d => (B0 c d cl.argTypes.toList args rws).map fun r => (CV raw ∧ r.1, r.2)
      | none => none
    | _ => (CN c o.op args ((rws[0]?).bind id) bx).map fun r => (CV raw ∧ r.1, { val := some r.2 })
  | op => (CN c op args ((rws[0]?).bind id) bx).map fun r => (CV raw ∧ r.1, { val := some r.2 })

def DR (k : Nat) : V → Bool
  | .p j _ => j == k
  | .r j => j == k
  | .e j _ _ _ => j == k
  | .s j _ => j == k
  | .tr j _ => j == k
  | .c _ ks => ks.any (· == k)
  | .q _ x => DR k x
  | .v _ => false
  | .d => false

def DS (k : Nat) : List (Nat × V) → List (Nat × V)
  | [] => []
  | (t, v) :: l => (t, if DR k v then .d else v) :: DS k l
def DT (k : Nat) : List (Nat × Option (List V)) → List (Nat × Option (List V))
  | [] => []
  | (j, cs) :: l => (j, if j == k || (cs.getD []).any (DR k) then none else cs) :: DT k l
def DU (k : Nat) : List (Nat × Option Row) → List (Nat × Option Row)
  | [] => []
  | (j, r) :: l => (j, if j == k then none else r) :: DU k l
def St.kill (σ : St) (k : Nat) : St := ⟨DS k σ.t, DT k σ.b, DU k σ.x⟩

def St.app (σ : St) (d : Option Tmp) (e : Eff) : St :=
  { t := match d, e.val with
      | some d, some v => (d, v) :: σ.t
      | _, _ => σ.t
    b := match e.box with
      | some (k, cs) => (k, some cs) :: σ.b
      | none => σ.b
    x := match e.row, e.lose with
      | some (k, r), none => (k, some r) :: σ.x
      | some (k, r), some j => (k, some r) :: (j, none) :: σ.x
      | none, _ => σ.x }

def DZ (ops : List Oper) (σ : St) : Option (Nat × Bool) → Option (Option Bool)
  | none => some none
  | some (j, want) =>
    match (ops[j]?).bind (·.dst) with
    | some d =>
      match CS σ.t d with
      | some (.v (.bool b)) => some (some (bif want then b else !b))
      | some (.q g (.v (.bool b))) => some (some (g && bif want then b else !b))
      | _ => none
    | none => none

def okd (c : Cx) (d : Nat) : Prop := d < c.N ∧ c.fz.contains d = false
def E0 (c : Cx) : Option Tmp → Bool
  | some d => decide (d < c.N) && !c.fz.contains d
  | none => true

/-- One operation: what must hold, and what it does. -/
def CL (c : Cx) (ops : List Oper) (o : Oper) (σ : St) : Option (Prop × Eff) :=
  match CO σ (CT o.op) with
  | some raw =>
    match CM c o raw (raw.map fun x => DG σ (CU x)) (DM raw fun x => DH σ (CU x)) with
    | some (ob, e) =>
      if E0 c o.dst then
        match DZ ops σ o.guard with
        | some none => some (ob, e)
        | some (some b) =>
          match e.val, e.box, e.row, e.key, e.lose with
          | some v, none, none, none, none => some (b = true → ob, { val := some (.q b v) })
          | _, _, _, _, _ => none
        | none => none
      else none
    | none => none
  | none => none

def DK : V → List Nat
  | .p k _ => [k]
  | .r k => [k]
  | .e k _ _ _ => [k]
  | .s k _ => [k]
  | .tr k _ => [k]
  | .c _ ks => ks
  | .q _ x => DK x
  | .v _ => []
  | .d => []
def DL : List V → List (Nat × Bool)
  | [] => []
  | v :: l => (DK v).map (fun k => (k, false)) ++ DL l

/-- Which keys an operation makes or writes (true), which it meets. -/
def DJ (σ : St) (o : Oper) (e : Eff) : List (Nat × Bool) :=
  (match e.box with
   | some (k, cs) => (k, true) :: DL cs
   | none => []) ++
  ((match e.row with
   | some (k, _) => [(k, true)]
   | none => []) ++
  ((match e.key with
   | some k => [(k, true)]
   | none => []) ++
  ((match e.val with
   | some v => DL [v]
   | none => []) ++
  (match CO σ (CT o.op) with
   | some raw => DL raw
   | none => []))))

def DW (k : Nat) : List (Nat × V) → Bool
  | [] => true
  | (_, v) :: l => !DR k v && DW k l
def DX (k : Nat) : List (Nat × Option (List V)) → Bool
  | [] => true
  | (j, cs) :: l => j != k && !(cs.getD []).any (DR k) && DX k l
def DY (k : Nat) : List (Nat × Option Row) → Bool
  | [] => true
  | (j, _) :: l => j != k && DY k l
def St.unseen (σ : St) (k : Nat) : Bool := DW k σ.t && DX k σ.b && DY k σ.x

def St.forget (σ : St) : Option Nat → St
  | some k => σ.kill k
  | none => σ
def St.newOK (σ : St) : Option Nat → Bool
  | some k => σ.unseen k
  | none => true

/-- What a box holds, if that is a row. -/
def B1 (σ : St) (k : Nat) : Option Row :=
  match CS σ.b k with
  | some (some [.r j]) => AL ((CS σ.x j).bind id)
  | _ => none
/-- A closure is called. -/
def B3 (c : Cx) (ops : List Oper) (o : Oper) (σ : St) : Option (Prop × Eff) :=
  match o.op with
  | .call cl =>
    match cl.callee with
    | .value (.tmp t) =>
      match (CR (CS σ.t t)).map CU, CO σ cl.args.toList, o.dst with
      | some (.c f ks), some raw, some d =>
        let all := raw.map CU ++ ks.map fun k => .p k 0
        let rws := (raw.map fun x => DG σ (CU x)) ++ ks.map (B1 σ)
        match c.Γ f all with
        | some [.v x] =>
          if DN all rws && E0 c o.dst then
            match DZ ops σ o.guard with
            | some none => some (CV ((CR (CS σ.t t)).toList ++ raw) ∧ CallOK c.P f all rws [.v x], { val := some (.v x) })
            | some (some b) => some (b = true → CV ((CR (CS σ.t t)).toList ++ raw) ∧ CallOK c.P f all rws [.v x], { val := some (.q b (.v x)) })
            | none => none
          else none
        | _ => none
      | _, _, _ => none
    | _ => none
  | _ => none
def B4 (x : Option (Prop × Eff)) (y : Option (Prop × Eff)) : Option (Prop × Eff) :=
  match x with
  | some r => some r
  | none => y

/-- A region's operations in the text's order (a new key's old traces are forgotten). -/
def CJ (c : Cx) (ops : List Oper) : List Oper → St → Option (Prop × St)
  | [], σ => some (True, σ)
  | o :: l, σ =>
    match B4 (CL c ops o σ) (B3 c ops o σ) with
    | some (ob, e) =>
      match CJ c ops l ((σ.forget e.key).app o.dst e) with
      | some (ob', σ') => some (ob ∧ ob', σ')
      | none => none
    | none => none

/-- A region that draws its order: no key may be known ahead of its making; what each reads and writes is told. -/
def CK (c : Cx) (ops : List Oper) : List Oper → St → Option (Prop × St × List (List (Nat × Bool)))
  | [], σ => some (True, σ, [])
  | o :: l, σ =>
    match CL c ops o σ with
    | some (ob, e) =>
      if σ.newOK e.key && e.lose.isNone then
        match CK c ops l (σ.app o.dst e) with
        | some (ob', σ', ks) => some (ob ∧ ob', σ', DJ σ o e :: ks)
        | none => none
      else none
    | none => none

/-- Which operations each waits for, through others, too: as bits. -/
def befores (ops : List Oper) : List Nat :=
  (ops.foldl (fun acc o => acc ++ [o.after.toList.foldl (fun s e => if Region.binds .any e then s ||| 2 ^ e.on ||| acc.getD e.on 0 else s) 0]) [])

/-- Slots that an operation looks at. -/
def reads (ops : List Oper) (o : Oper) : List Nat :=
  ((CT o.op).filterMap fun x => match x with | .tmp t => some t | _ => none) ++
  (match o.guard with
   | some (j, _) => ((ops[j]?).bind (·.dst)).toList
   | none => [])

def clash (ops : List Oper) (o p : Oper) (ko kp : List (Nat × Bool)) : Bool :=
  (match o.dst with
   | some d => (reads ops p).contains d || p.dst == some d
   | none => false) ||
  (match p.dst with
   | some d => (reads ops o).contains d
   | none => false) ||
  ko.any fun x => kp.any fun y => x.1 == y.1 && (x.2 || y.2)

/-- Whoever clashes is ordered; and the order goes by the numbers. -/
def chk (ops : List Oper) (ks : List (List (Nat × Bool))) : Bool :=
  ((List.range ops.length).all fun j => (List.range j).all fun i =>
    match ops[i]?, ops[j]? with
    | some o, some p => !clash ops o p (ks.getD i []) (ks.getD j []) || ((befores ops).getD j 0).testBit i
    | _, _ => false) &&
  (List.range ops.length).all fun j =>
    match ops[j]? with
    | some o => o.after.toList.all fun e => !Region.binds .any e || decide (e.on < j)
    | none => false

/-- Is it a call of yield? Its slot, its arguments. -/
def BD (o : Oper) : Option (Nat × List Operand × Nat) :=
  match o.op, o.dst with
  | .call cl, some d =>
    match cl.callee with
    | .value (.tmp t) => some (t, cl.args.toList, d)
    | _ => none
  | _, _ => none
/-- Nothing is known that a round might turn. -/
def BF : List (Nat × Option Row) → Bool
  | [] => true
  | (_, none) :: l => BF l
  | (_, some R) :: l => !R.own && R.sp.isNone && BF l
def BG (c : Cx) (σ : St) (d : Nat) (R : Row) (v : V) (b : Bool) : St :=
  ⟨(d, v) :: σ.t, σ.b, (c.N, some (bif b then { R with ty := R.ty + 1 } else { R with size := 2 })) :: σ.x⟩
/-- May yield be called here, with these? -/
def BE (c : Cx) (σ : St) (R : Row) (f : V) (vs : List V) : Prop :=
  CV (f :: vs) ∧ match CU f, D9 (vs.map CU) with
  | .v (.func (.yield l) fs cs), some us => (l = c.yl ∧ fs = #[] ∧ cs = #[]) ∧ c.ys[R.ty]? = some us ∧ R.size = 1 ∧ R.len = 0
  | _, _ => False
/-- A region in the text's order in which yield may be called. -/
def BC (c : Cx) (ops : List Oper) : List Oper → St → (St → Prop) → Prop
  | [], σ, K => K σ
  | o :: l, σ, K =>
    match BD o with
    | some (t, args, d) =>
      match CP σ (.tmp t), CO σ args, CS σ.x c.N with
      | some f, some vs, some (some R) =>
        if E0 c (some d) && BF σ.x then
          match DZ ops σ o.guard with
          | some none => BE c σ R f vs ∧ ∀ b, BC c ops l (BG c σ d R (.v (.bool b)) b) K
          | some (some g) => (g = true → BE c σ R f vs ∧ ∀ b, BC c ops l (BG c σ d R (.q true (.v (.bool b))) b) K) ∧ (g = false → BC c ops l ⟨(d, .q false (.v (.bool false))) :: σ.t, σ.b, σ.x⟩ K)
          | none => False
        else False
      | _, _, _ => False
    | none =>
      match CL c ops o σ with
      | some (ob, e) => ob ∧ BC c ops l ((σ.forget e.key).app o.dst e) K
      | none => False

/-- A region that draws its order and appends: up to the append it draws; from there on each waits for all ahead. -/
def notApp (o : Oper) : Bool :=
  match o.op with
  | .call cl => match cl.callee with
    | .builtin .append => false
    | _ => true
  | _ => true
def full (ops : List Oper) (n : Nat) : Bool :=
  (List.range ops.length).all fun j => decide (j < n) || (List.range j).all fun i => ((befores ops).getD j 0).testBit i
def BA (c : Cx) (ops : List Oper) (σ : St) : Option (Prop × St × List (List (Nat × Bool)) × Nat) :=
  match CK c ops (ops.takeWhile notApp) σ with
  | some (ob, σ1, ks) =>
    match CJ c ops (ops.dropWhile notApp) σ1 with
    | some (ob2, σ2) => some (ob ∧ ob2, σ2, ks, (ops.takeWhile notApp).length)
    | none => none
  | none => none

end Go.Ab
