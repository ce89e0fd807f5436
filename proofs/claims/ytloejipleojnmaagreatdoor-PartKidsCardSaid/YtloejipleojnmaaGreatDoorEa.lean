/-
  Sx, part 1: a symbolic executor for the loaded code, over values whose numbers, texts and lists may be any terms, and whose own memory has names.
  Definitions alone; nothing here is proved yet.
-/
import GoSem.Core.Code
import GoSem.Core.World
import GoSem.Op.String
import Derived.Laws.AppendOwn
import Derived.Below
import Derived.WalkKit
import Derived.Laws.MakeOwn
import Derived.Lib.Builder
import Derived.Laws.BytesString
import Derived.Laws.IdiomStrings
import Derived.Laws.BytesArg
import Derived.Lib.AppendStr
set_option linter.unusedVariables false
set_option linter.unusedSimpArgs false
set_option linter.unusedVariables false
namespace Sx
open Go

/-- A symbolic value. Own memory is named by numbers ('box', 'elt', 'ael', 'row'); 'lst' is a slice that nobody writes any more, by its elements; 'adr' is the address of cells that nobody writes any more. -/
inductive SV where
  | bool (b : Bool)
  | int (k : IntKind) (n : Int)
  | str (s : ByteArray)
  | pnil
  | snil
  | box (id off : Nat)
  | elt (id sz i off : Nat)
  | ael (id base sz n i off : Nat)
  | adr (cs : List SV)
  | row (id : Nat)
  | lst (e : TypeId) (xs : List SV)
  | agg (cs : List SV)
  | tup (vs : List SV)
  | fn (f : Fn) (first captured : List SV)
  | opq (v : Value)
  | dead
  deriving Inhabited

def asInt : SV → Int | .int _ n => n | _ => 0
def asBool : SV → Bool | .bool b => b | _ => false
def asStr : SV → ByteArray | .str s => s | _ => ByteArray.empty
def asLst : SV → List SV | .lst _ xs => xs | _ => []
/-- A value's cells. -/
def cellsOf : SV → List SV | .agg cs => cs | x => [x]

/-- A cell's kind. -/
inductive CK where
  | bool | int (k : IntKind) | str | slice (e : TypeId) | other
  deriving Inhabited, DecidableEq
/-- A type's shape. -/
inductive D where
  | bool | int (k : IntKind) | str | uptr | ptr (e : TypeId) | slice (e : TypeId) | array (n : Nat) (e : TypeId) | struct (fs : List (Nat × TypeId)) | other
  deriving Inhabited, DecidableEq
structure TyD where
  d : D
  size : Nat
  bytes : Nat
  cells : List CK
  zero : List SV
  eqOk : Bool
  deriving Inhabited

def D.isAgg : D → Bool | .array _ _ | .struct _ => true | _ => false

def expC : CK → SV → SV
  | .bool, x => .bool (asBool x)
  | .int k, x => .int k (asInt x)
  | .str, x => .str (asStr x)
  | .slice e, x => .lst e (asLst x)
  | .other, x => x
def expFrom : Nat → List CK → List SV → List SV
  | _, [], _ => []
  | j, c :: cs, l => expC c (l.getD j .dead) :: expFrom (j + 1) cs l
/-- The cells of a value of a type, each with its constructor in front. -/
def expCells (t : TyD) (x : SV) : List SV := expFrom 0 t.cells (cellsOf x)
/-- A value out of its cells. -/
def ofCells (d : D) (cs : List SV) : SV := match d with
  | .array _ _ | .struct _ => .agg cs
  | _ => cs.headD .dead
def expT (t : TyD) (x : SV) : SV := ofCells t.d (expCells t x)

/-- Is the cell of its kind? (Its constructor stands in front.) -/
def tyC : CK → SV → Bool
  | .bool, .bool _ => true
  | .int k, .int k' _ => decide (k = k')
  | .str, .str _ => true
  | .slice e, .lst e' _ => Nat.beq e e'
  | .other, _ => false
  | _, _ => false
def tyCs : List CK → List SV → Bool
  | [], [] => true
  | c :: cs, x :: xs => tyC c x && tyCs cs xs
  | _, _ => false
/-- Is it the value of one cell, and known? -/
def cellish : SV → Bool
  | .agg _ | .tup _ | .dead => false
  | _ => true
/-- A box's cells: those of whole numbers, bools and strings are of their kinds. -/
def tyBC : CK → SV → Bool
  | .bool, .bool _ => true
  | .int k, .int k' _ => decide (k = k')
  | .str, .str _ => true
  | .slice _, x => cellish x
  | .other, x => cellish x
  | _, _ => false
def tyBCs : List CK → List SV → Bool
  | [], [] => true
  | c :: cs, x :: xs => tyBC c x && tyBCs cs xs
  | _, _ => false

inductive SObj where
  | box (t : TypeId) (cs : List SV)
  | row (e : TypeId) (xs : List SV)
  deriving Inhabited
abbrev Mem := List (Nat × SObj)
def Mem.get : Mem → Nat → Option SObj
  | [], _ => none
  | (i, o) :: r, id => bif Nat.beq i id then some o else Mem.get r id
def Mem.del : Mem → Nat → Mem
  | [], _ => []
  | (i, o) :: r, id => bif Nat.beq i id then Mem.del r id else (i, o) :: Mem.del r id
def Mem.put (m : Mem) (id : Nat) (o : SObj) : Mem := (id, o) :: m.del id

structure St where
  slots : List SV
  mem : Mem
  used : List Nat
  deriving Inhabited

def hasNat : List Nat → Nat → Bool
  | [], _ => false
  | a :: l, x => Nat.beq a x || hasNat l x

def setAt : List SV → Nat → SV → List SV
  | [], _, _ => []
  | _ :: l, 0, v => v :: l
  | a :: l, n + 1, v => a :: setAt l n v
def getAt : List SV → Nat → SV
  | [], _ => .dead
  | a :: _, 0 => a
  | _ :: l, n + 1 => getAt l n

def konst1 : Value → SV
  | .bool b => .bool b
  | .int k n => .int k n
  | .string s => .str s
  | .pointer none => .pnil
  | .slice none 0 0 => .snil
  | .agg _ | .tuple _ => .dead
  | v => .opq v
def konst : Value → SV
  | .agg cs => .agg (cs.toList.map konst1)
  | v => konst1 v
def evl (sl : List SV) : Operand → SV
  | .tmp t => getAt sl t
  | .const v => konst v
  | .global g => .opq (.pointer (some ⟨g, 0, none⟩))
  | .func f => .fn (.func f) [] []

abbrev Tys := TypeId → Option TyD

def St.put (s : St) (d : Option Tmp) (v : SV) : St := match d with
  | some t => { s with slots := setAt s.slots t v }
  | none => s

/-- The name of what an operation makes. -/
def newId (d : Option Tmp) : Option Nat := d.map (1000 + ·)
def Mem.has (m : Mem) (id : Nat) : Bool := match m.get id with | some _ => true | none => false
def St.fresh (s : St) (d : Option Tmp) (o : SObj) : Option (Nat × St) :=
  match d with
  | none => none
  | some t => bif hasNat s.used (1000 + t) || (Nat.ble 900000 t || s.mem.has (1000 + t)) then none else some (1000 + t, { s with mem := (1000 + t, o) :: s.mem, used := (1000 + t) :: s.used })

/-- No less than any of them. -/
def maxN : List Nat → Nat
  | [] => 0
  | a :: l => a + (maxN l - a)
/-- Something new, by a name that nothing had. -/
def St.freshN (s : St) (o : SObj) : Option (Nat × St) := s.fresh (some (maxN s.used - 999)) o

def bAt (s : ByteArray) (i : Int) : Int := ((s.data.toList.getD i.toNat 0).toNat : Int)
def bytesOf (s : ByteArray) : List SV := s.data.toList.map fun b => .int .u8 (b.toNat : Int)
def strOf (xs : List SV) : ByteArray := ⟨(xs.map fun x => (asInt x).toNat.toUInt8).toArray⟩

def ibits (op : BinOp) (k : IntKind) (x y : Int) : Int :=
  let a := BitVec.ofInt k.bits x
  let b := BitVec.ofInt k.bits y
  match op with
  | .and => k.wrap (a &&& b).toNat
  | .or => k.wrap (a ||| b).toNat
  | .xor => k.wrap (a ^^^ b).toNat
  | .andNot => k.wrap (a &&& ~~~b).toNat
  | _ => 0
def shlI (k : IntKind) (x y : Int) : Int := k.wrap (x * 2 ^ (min y.toNat k.bits))
def shrI (k : IntKind) (x y : Int) : Int := x.fdiv (2 ^ (min y.toNat k.bits))

/-- A result: what must hold, the value, the state. -/
abbrev Res := Option (Bool × SV × St)

def beqCell : SV → SV → Option Bool
  | .bool a, .bool b => some (a == b)
  | .int k a, .int k' b => bif decide (k = k') then some (a == b) else none
  | .str a, .str b => some (a == b)
  | _, _ => none
def beqCells : List SV → List SV → Option Bool
  | [], [] => some true
  | x :: xs, y :: ys => match beqCell x y, beqCells xs ys with
    | some a, some b => some (a && b)
    | _, _ => none
  | _, _ => none

def binX (Ty : Tys) (op : BinOp) (xt : TypeId) (x y : SV) : Option (Bool × SV) :=
  match x, y with
  | .int k a, .int k' b =>
    match op with
    | .shl => some (decide (0 ≤ b), .int k (shlI k a b))
    | .shr => some (decide (0 ≤ b), .int k (shrI k a b))
    | _ =>
      bif decide (k = k') then
        match op with
        | .add => some (true, .int k (k.wrap (a + b)))
        | .sub => some (true, .int k (k.wrap (a - b)))
        | .mul => some (true, .int k (k.wrap (a * b)))
        | .quo => some (!(b == 0), .int k (k.wrap (a.tdiv b)))
        | .rem => some (!(b == 0), .int k (a.tmod b))
        | .and => some (true, .int k (ibits .and k a b))
        | .or => some (true, .int k (ibits .or k a b))
        | .xor => some (true, .int k (ibits .xor k a b))
        | .andNot => some (true, .int k (ibits .andNot k a b))
        | .eql => some (true, .bool (a == b))
        | .neq => some (true, .bool (a != b))
        | .lss => some (true, .bool (decide (a < b)))
        | .leq => some (true, .bool (decide (a ≤ b)))
        | .gtr => some (true, .bool (decide (a > b)))
        | .geq => some (true, .bool (decide (a ≥ b)))
        | _ => none
      else none
  | .str a, .str b =>
    match op with
    | .add => some (Nat.ble (a.size + b.size) 9223372036854775807, .str (a ++ b))
    | .eql => some (true, .bool (a.toList == b.toList))
    | .neq => some (true, .bool !(a.toList == b.toList))
    | .lss => some (true, .bool (Op.bytesLess a.toList b.toList))
    | .leq => some (true, .bool (Op.bytesLess a.toList b.toList || a.toList == b.toList))
    | .gtr => some (true, .bool !(Op.bytesLess a.toList b.toList || a.toList == b.toList))
    | .geq => some (true, .bool !(Op.bytesLess a.toList b.toList))
    | _ => none
  | .bool a, .bool b =>
    match Ty xt with
    | some { d := .bool, .. } => (match op with
      | .eql => some (true, .bool (a == b))
      | .neq => some (true, .bool (!(a == b)))
      | _ => none)
    | _ => none
  | .agg xs, .agg ys =>
    match Ty xt with
    | some { eqOk := true, cells := ks, .. } => (bif tyCs ks xs && tyCs ks ys then
        (match beqCells xs ys with
        | some r => (match op with
          | .eql => some (true, .bool r)
          | .neq => some (true, .bool (!r))
          | _ => none)
        | none => none) else none)
    | _ => none
  | .box _ _, .pnil => match Ty xt with
    | some { d := .ptr _, .. } => (match op with
      | .eql => some (true, .bool false)
      | .neq => some (true, .bool true)
      | _ => none)
    | _ => none
  | .box i p, .box j q => match Ty xt with
    | some { d := .ptr e, .. } => bif Nat.beq i j && Nat.beq p q && (match Ty e with | some _ => true | none => false) then (match op with
      | .eql => some (true, .bool true)
      | .neq => some (true, .bool false)
      | _ => none) else none
    | _ => none
  | .pnil, .pnil => match Ty xt with
    | some { d := .ptr _, .. } => (match op with
      | .eql => some (true, .bool true)
      | .neq => some (true, .bool false)
      | _ => none)
    | _ => none
  | _, _ => none
def D.fields : D → List (Nat × TypeId) | .struct fs => fs | _ => []
/-- The cells from 'off' on, n of them. -/
def cut (off n : Nat) (cs : List SV) : List SV := (cs.drop off).take n
/-- n cells from 'off' on, each read by its place. -/
def pick : Nat → Nat → List SV → List SV
  | _, 0, _ => []
  | off, n + 1, cs => getAt cs off :: pick (off + 1) n cs
/-- n cells from a place on that is reckoned, by their kinds. -/
def pickX : Nat → List CK → List SV → List SV
  | _, [], _ => []
  | off, c :: ks, cs => expC c (cs.getD off .dead) :: pickX (off + 1) ks cs
def putC : List SV → Nat → List SV → List SV
  | cs, _, [] => cs
  | cs, off, v :: vs => putC (setAt cs off v) (off + 1) vs
def putX : List SV → Nat → List SV → List SV
  | cs, _, [] => cs
  | cs, off, v :: vs => putX (cs.set off v) (off + 1) vs

/-- A value that is put where nobody writes any more: own rows in it become lists, and are nobody's any more. -/
def toData (Ty : Tys) : List CK → List SV → Mem → Option (List SV × Mem)
  | [], [], m => some ([], m)
  | c :: ks, x :: xs, m =>
    let go (y : SV) (m' : Mem) : Option (List SV × Mem) := match toData Ty ks xs m' with
      | some (ys, m'') => some (y :: ys, m'')
      | none => none
    match c, x with
    | .slice e, .snil => go (.lst e []) m
    | .slice e, .row id => (match m.get id with
      | some (.row e' l) => bif Nat.beq e e' then go (.lst e l) (m.del id) else none
      | _ => none)
    | c, x => bif tyC c x then go x m else none
  | _, _, _ => none

def repl (n : Nat) (x : SV) : List SV := List.replicate n x

def subK : List CK → List CK → Bool
  | [], _ => true
  | x :: a, y :: b => decide (x = y) && subK a b
  | _, _ => false
/-- Are the kinds those from 'off' on in each of n elements of so many cells? -/
def repOk (sz off : Nat) (ks : List CK) : Nat → List CK → Bool
  | 0, _ => true
  | n + 1, l => subK ks (l.drop off) && repOk sz off ks n (l.drop sz)
/-- Kinds of one cell that leads nowhere. -/
def loadX.scal : List CK → Bool
  | [] => true
  | .bool :: r | .int _ :: r | .str :: r => loadX.scal r
  | _ => false
def loadX (Ty : Tys) (t : TypeId) (a : SV) (s : St) : Option SV :=
  match Ty t with
  | none => none
  | some d =>
    match a with
    | .box id off => (match s.mem.get id with
      | some (.box _ cs) => bif Nat.ble (off + d.size) cs.length then some (ofCells d.d (pick off d.size cs)) else none
      | _ => none)
    | .elt id sz i off => (match s.mem.get id with
      | some (.row e xs) => (match Ty e with
        | some de => bif Nat.beq sz de.size && Nat.ble (off + d.size) de.size then some (ofCells d.d (pick off d.size (expCells de (xs.getD i .dead)))) else none
        | none => none)
      | _ => none)
    | .ael id base sz n i off => (match s.mem.get id with
      | some (.box bt cs) => (match Ty bt with
        | some dt => bif Nat.ble (base + n * sz) cs.length && Nat.ble (off + d.size) sz && loadX.scal d.cells && repOk sz off d.cells n (dt.cells.drop base) then some (ofCells d.d (pickX (base + i * sz + off) d.cells cs)) else none
        | none => none)
      | _ => none)
    | .adr cs => bif Nat.ble d.size cs.length then some (ofCells d.d (pick 0 d.size cs)) else none
    | _ => none

def storeX (Ty : Tys) (t : TypeId) (a v : SV) (s : St) : Option St :=
  match Ty t with
  | none => none
  | some d =>
    bif !(Nat.beq (cellsOf v).length d.size) then none else
    match a with
    | .box id off => (match s.mem.get id with
      | some (.box bt cs) => (match Ty bt with
        | some dt => bif Nat.ble (off + d.size) cs.length && tyBCs d.cells (cellsOf v) && subK d.cells (dt.cells.drop off) then some { s with mem := s.mem.put id (.box bt (putC cs off (cellsOf v))) } else none
        | none => none)
      | _ => none)
    | .elt id sz i off => (match s.mem.get id with
      | some (.row e xs) => (match Ty e with
        | some de => bif Nat.beq sz de.size && Nat.ble (off + d.size) de.size && subK d.cells (de.cells.drop off) then
            (match toData Ty d.cells (cellsOf v) s.mem with
             | some (vs, m) => (match m.get id with
               | some (.row e' xs') => some { s with mem := m.put id (.row e' (xs'.set i (ofCells de.d (putC (expCells de (xs'.getD i .dead)) off vs)))) }
               | _ => none)
             | none => none) else none
        | none => none)
      | _ => none)
    | .ael id base sz n i off => (match s.mem.get id with
      | some (.box bt cs) => (match Ty bt with
        | some dt => bif Nat.ble (base + n * sz) cs.length && Nat.ble (off + d.size) sz && tyBCs d.cells (cellsOf v) && loadX.scal d.cells && repOk sz off d.cells n (dt.cells.drop base) then some { s with mem := s.mem.put id (.box bt (putX cs (base + i * sz + off) (cellsOf v))) } else none
        | none => none)
      | _ => none)
    | _ => none

def fieldX (Ty : Tys) (xt : TypeId) (a : SV) (f : Nat) : Option SV :=
  match Ty xt with
  | some { d := .struct fs, .. } => (match fs[f]? with
    | some (o, ft) => (match Ty ft with
      | some df => bif Nat.beq df.size 0 then none else (match a with
        | .box id off => some (.box id (off + o))
        | .elt id sz i off => some (.elt id sz i (off + o))
        | .ael id base sz n i off => some (.ael id base sz n i (off + o))
        | .adr cs => some (.adr (cs.drop o))
        | _ => none)
      | none => none)
    | none => none)
  | _ => none

def natOf : SV → Option Int | .int _ n => some n | _ => none

/-- A slice's elements, where it is to be read alone. -/
def elems (m : Mem) : SV → Option (List SV)
  | .snil => some []
  | .lst _ xs => some xs
  | .row id => match m.get id with | some (.row _ xs) => some xs | _ => none
  | _ => none

/-- The same, of one type of elements. -/
def elemsE (e : TypeId) (m : Mem) : SV → Option (List SV)
  | .snil => some []
  | .lst e' xs => bif Nat.beq e e' then some xs else none
  | .row id => match m.get id with | some (.row e' xs) => (bif Nat.beq e e' then some xs else none) | _ => none
  | _ => none

def indexAddrX (Ty : Tys) (t : TypeId) (x i : SV) (s : St) : Option (Bool × SV) :=
  match natOf i, Ty t with
  | some n, some { d := .array len e, .. } => (match Ty e with
    | some de => (match x with
      | .box id off => some (decide (0 ≤ n) && decide (n < (len : Int)), .ael id off de.size len n.toNat 0)
      | _ => none)
    | none => none)
  | some n, some { d := .slice e, .. } => (match Ty e with
    | some de => (match x with
      | .lst e' xs => bif Nat.beq e e' then some (decide (0 ≤ n) && decide (n < (xs.length : Int)), .adr (expCells de (xs.getD n.toNat .dead))) else none
      | .row id => (match s.mem.get id with
        | some (.row e' xs) => bif Nat.beq e e' then some (decide (0 ≤ n) && decide (n < (xs.length : Int)), .elt id de.size n.toNat 0) else none
        | _ => none)
      | _ => none)
    | none => none)
  | _, _ => none

def indexX (Ty : Tys) (t : TypeId) (x i : SV) : Option (Bool × SV) :=
  match natOf i, x with
  | some n, .str s => (match Ty t with
    | some { d := .str, .. } => some (decide (0 ≤ n) && decide (n < (s.size : Int)), .int .u8 (bAt s n))
    | _ => none)
  | _, _ => none

def hiEnd (hi : Option SV) (len : Nat) : Option Int := match hi with | none => some len | some v => natOf v
def loEnd (lo : Option SV) : Option Int := match lo with | none => some 0 | some v => natOf v
def endsOk (lo hi : Option SV) (l h : Int) (len : Nat) : Bool :=
  (match hi with | none => true | some _ => decide (0 ≤ h) && decide (h ≤ (len : Int))) && (match lo with | none => true | some _ => decide (0 ≤ l) && decide (l ≤ h))
/-- x[lo:hi] -/
def sliceX (Ty : Tys) (t : TypeId) (x : SV) (lo hi : Option SV) (d : Option Tmp) (s : St) : Res :=
  match Ty t with
  | some { d := .str, .. } => (match x with
    | .str u => (match loEnd lo, hiEnd hi u.size with
      | some l, some h => some (endsOk lo hi l h u.size, .str (u.extract l.toNat h.toNat), s)
      | _, _ => none)
    | _ => none)
  | some { d := .slice e, .. } => (match Ty e with
    | none => none
    | some de =>
    (match x with
    | .lst e' xs => bif Nat.beq e e' then
        (match loEnd lo, hiEnd hi xs.length with
        | some l, some h => some (endsOk lo hi l h xs.length, .lst e ((xs.take h.toNat).drop l.toNat), s)
        | _, _ => none) else none
    | .row id => (match s.mem.get id with
      | some (.row e' xs) => bif Nat.beq e e' then
        (match lo, hi with
        | none, none => some (true, .row id, s)
        | none, some v => (match natOf v with
            | some h => (match ({ s with mem := s.mem.del id } : St).fresh d (.row e (xs.take h.toNat)) with
              | some (id', s') => some (decide (0 ≤ h) && decide (h ≤ (xs.length : Int)), .row id', s')
              | none => none)
            | none => none)
        | some lv, hi => (match loEnd (some lv), hiEnd hi xs.length with
          | some l, some h => some (endsOk (some lv) hi l h xs.length, .lst e ((xs.take h.toNat).drop l.toNat), { s with mem := s.mem.del id })
          | _, _ => none)) else none
      | _ => none)
    | _ => none))
  | _ => none

def fillC : List SV → List (Nat × List SV) → List SV
  | cs, [] => cs
  | cs, (o, vs) :: r => fillC (putC cs o vs) r
/-- Where the parts of a literal go: offset and cells; each of its place's size. -/
def places (Ty : Tys) (d : TyD) : List (Nat × SV) → Option (List (Nat × List SV))
  | [] => some []
  | (i, v) :: r =>
    let o : Option (Nat × Nat) := match d.d with
      | .struct fs => (match fs[i]? with
        | some (o, ft) => (match Ty ft with | some df => some (o, df.size) | none => none)
        | none => none)
      | .array n e => (match Ty e with | some de => bif Nat.blt i n then some (i * de.size, de.size) else none | none => none)
      | _ => none
    match o, places Ty d r with
    | some (o, sz), some l => bif Nat.beq (cellsOf v).length sz && Nat.ble (o + sz) d.size then some ((o, cellsOf v) :: l) else none
    | _, _ => none
def arrOk (Ty : Tys) : D → Bool
  | .array _ e => (match Ty e with | some _ => true | none => false)
  | _ => true
/-- No part is unknown as a whole. -/
def knownP : List (Nat × SV) → Bool
  | [] => true
  | (_, .dead) :: _ => false
  | (_, .tup _) :: _ => false
  | _ :: r => knownP r
def buildX (Ty : Tys) (t : TypeId) (parts : List (Nat × SV)) : Option SV :=
  match Ty t with
  | some d => bif d.d.isAgg && arrOk Ty d.d && knownP parts then (match places Ty d parts with
    | some l => some (.agg (fillC d.zero l))
    | none => none) else none
  | none => none

def setNth : List SV → Nat → SV → List SV := setAt
/-- A slice literal's elements: those that are not told are nought. -/
def litElems (Ty : Tys) (de : TyD) : List (Nat × SV) → List SV → Mem → Option (List SV × Mem)
  | [], xs, m => some (xs, m)
  | (i, v) :: r, xs, m => match toData Ty de.cells (cellsOf v) m with
    | some (vs, m') => bif Nat.blt i xs.length then litElems Ty de r (setAt xs i (ofCells de.d vs)) m' else none
    | none => none
def zeroCs : List CK → List SV → Option (List SV)
  | [], [] => some []
  | k :: ks, z :: zs =>
    let r : Option SV := match k, z with
      | .slice e, .snil => some (.lst e [])
      | .slice _, _ => none
      | k, z => bif tyC k z then some z else none
    match r, zeroCs ks zs with
    | some y, some l => some (y :: l)
    | _, _ => none
  | _, _ => none
def zeroData (de : TyD) : Option SV := match zeroCs de.cells de.zero with
  | some vs => some (ofCells de.d vs)
  | none => none
def lits (n : Nat) (x : SV) : List SV := match n with
  | 0 => []
  | n + 1 => x :: lits n x

def appendX (Ty : Tys) (t : TypeId) (base x : SV) (d : Option Tmp) (s : St) : Res :=
  match Ty t with
  | some { d := .slice e, .. } => (match Ty e with
    | some de =>
      let news : Option (List SV) := match x with
        | .str u => (match de.d with | .int .u8 => some (bytesOf u) | _ => none)
        | x => elemsE e s.mem x
      (match news with
      | none => none
      | some ys =>
        let onto (xs : List SV) (s : St) : Res := match s.fresh d (.row e (xs ++ ys)) with
          | some (id', s') => some (decide ((xs.length + ys.length) * de.bytes ≤ 140737488355328) && decide (xs.length + ys.length ≤ 9223372036854775807), .row id', s')
          | none => none
        match base with
        | .snil => onto [] s
        | .row id => (match s.mem.get id, x with
          | some (.row e' xs), .row id2 => bif Nat.beq e e' && !(Nat.beq id id2) then onto xs { s with mem := s.mem.del id } else none
          | some (.row e' xs), _ => bif Nat.beq e e' then onto xs { s with mem := s.mem.del id } else none
          | _, _ => none)
        | _ => none)
    | none => none)
  | _ => none

def makeX (Ty : Tys) (t : TypeId) (len cap : SV) (d : Option Tmp) (s : St) : Res :=
  match Ty t, natOf len, natOf cap with
  | some { d := .slice e, .. }, some l, some c => (match Ty e with
    | some de => (match zeroData de with
      | some z => (match s.fresh d (.row e (List.replicate l.toNat z)) with
        | some (id', s') => some (decide (0 ≤ l) && decide (l ≤ c) && decide (c * de.bytes ≤ 140737488355328) && decide (c ≤ 9223372036854775807), .row id', s')
        | none => none)
      | none => none)
    | none => none)
  | _, _, _ => none

def lenX (Ty : Tys) (t : TypeId) (m : Mem) (x : SV) : Option SV :=
  match Ty t, x with
  | some { d := .str, .. }, .str u => some (.int .i64 u.size)
  | some { d := .slice _, .. }, x => (match elems m x with | some xs => some (.int .i64 xs.length) | none => none)
  | _, _ => none

def convX (Ty : Tys) (src dst : TypeId) (x : SV) (d : Option Tmp) (s : St) : Res :=
  match Ty src, Ty dst, x with
  | some _, some { d := .int k, .. }, .int _ n => some (true, .int k (k.wrap n), s)
  | some _, some { d := .str, .. }, .str u => some (true, .str u, s)
  | some { d := .str, .. }, some { d := .slice e, .. }, .str u => (match Ty e with
    | some { d := .int .u8, .. } => (match s.fresh d (.row e (bytesOf u)) with
      | some (id', s') => some (decide (u.size ≤ 140737488355328), .row id', s')
      | none => none)
    | _ => none)
  | some { d := .slice e, .. }, some { d := .str, .. }, x => (match Ty e with
    | some { d := .int .u8, .. } => (match elemsE e s.mem x with
      | some xs => some (true, .str (strOf xs), s)
      | none => none)
    | _ => none)
  | some { d := .ptr e, .. }, some { d := .uptr, .. }, .box id 0 => (match s.mem.get id, Ty e with
    | some (.box t _), some _ => bif Nat.beq t e then some (true, .box id 0, s) else none
    | _, _ => none)
  | some { d := .uptr, .. }, some { d := .ptr e, .. }, .box id 0 => (match s.mem.get id, Ty e with
    | some (.box t _), some _ => bif Nat.beq t e then some (true, .box id 0, s) else none
    | _, _ => none)
  | some { d := .slice e, .. }, some { d := .slice _, .. }, .row id => bif Nat.beq src dst then (match Ty e, s.mem.get id with
    | some { d := .int .u8, .. }, some (.row e' xs) => bif Nat.beq e e' then some (Nat.ble 1 xs.length, .row id, { s with mem := s.mem.put id (.row e' xs) }) else none
    | _, _ => none) else none
  | _, _, _ => none

def evls (sl : List SV) : List Operand → List SV
  | [] => []
  | x :: l => evl sl x :: evls sl l
def evlp (sl : List SV) : List (Nat × Operand) → List (Nat × SV)
  | [] => []
  | (i, x) :: l => (i, evl sl x) :: evlp sl l
def evlo (sl : List SV) : Option Operand → Option SV
  | none => none
  | some x => some (evl sl x)

def sameRow (id : Nat) : SV → Bool | .row id2 => Nat.beq id id2 | _ => false
/-- copy, into a row of one's own. -/
def copyX (Ty : Tys) (t : TypeId) (x y : SV) (s : St) : Res :=
  match Ty t, x with
  | some { d := .slice e, .. }, .row id => (match s.mem.get id with
    | some (.row e' xs) => (bif Nat.beq e e' && !(sameRow id y) then
        (match Ty e, elemsE e s.mem y with
        | some _, some ys => some (true, .int .i64 ((min ys.length xs.length : Nat) : Int), { s with mem := s.mem.put id (.row e (ys.take xs.length ++ xs.drop ys.length)) })
        | _, _ => none) else none)
    | _ => none)
  | _, _ => none

/-- One operation that calls nothing and parts no ways. -/
def opX (Ty : Tys) (o : Oper) (s : St) : Res :=
  let ev := evl s.slots
  let pure (r : Option SV) : Res := match r with | some v => some (true, v, s) | none => none
  let chk (r : Option (Bool × SV)) : Res := match r with | some (b, v) => some (b, v, s) | none => none
  match o.op with
  | .move x | .assign x => some (true, ev x, s)
  | .alloc t => (match Ty t with
    | some d => (match s.fresh o.dst (.box t d.zero) with
      | some (id, s') => some (true, .box id 0, s')
      | none => none)
    | none => none)
  | .box t x => (match Ty t with
    | some d => bif tyBCs d.cells (cellsOf (ev x)) then (match s.fresh o.dst (.box t (cellsOf (ev x))) with
      | some (id, s') => some (true, .box id 0, s')
      | none => none) else none
    | none => none)
  | .build t parts => pure (buildX Ty t (evlp s.slots parts.toList))
  | .buildSlice t len parts => (match Ty t with
    | some { d := .slice e, .. } => (match Ty e with
      | some de => (match zeroData de with
        | some z => bif Nat.ble (len * de.size) 16777216 then (match litElems Ty de (evlp s.slots parts.toList) (lits len z) s.mem with
          | some (xs, m) => (match ({ s with mem := m } : St).fresh o.dst (.row e xs) with
            | some (id, s') => some (true, .row id, s')
            | none => none)
          | none => none) else none
        | none => none)
      | none => none)
    | _ => none)
  | .load t a => pure (loadX Ty t (ev a) s)
  | .store t a v => (match storeX Ty t (ev a) (ev v) s with
    | some s' => some (true, .dead, s')
    | none => none)
  | .nilCheck x => (match ev x with
    | .box id off => some (true, .box id off, s)
    | .elt id sz i off => some (true, .elt id sz i off, s)
    | .adr cs => some (true, .adr cs, s)
    | _ => none)
  | .binOp op xt x y _ => chk (binX Ty op xt (ev x) (ev y))
  | .unOp op _ x => (match op, ev x with
    | .neg, .int k n => some (true, .int k (k.wrap (0 - n)), s)
    | .xor, .int k n => some (true, .int k (ibits .xor k (if k.signed then -1 else k.max) n), s)
    | .not, .bool b => some (true, .bool (!b), s)
    | _, _ => none)
  | .convert src dst x => convX Ty src dst (ev x) o.dst s
  | .fieldAddr xt x f => pure (fieldX Ty xt (ev x) f)
  | .field xt x f => (match Ty xt, ev x with
    | some { d := .struct fs, .. }, .agg cs => (match fs[f]? with
      | some (off, ft) => (match Ty ft with
        | some df => bif Nat.ble (off + df.size) cs.length then some (true, ofCells df.d (pick off df.size cs), s) else none
        | none => none)
      | none => none)
    | _, _ => none)
  | .indexAddr t x i => chk (indexAddrX Ty t (ev x) (ev i) s)
  | .index t x i => chk (indexX Ty t (ev x) (ev i))
  | .slice t x lo hi mx => (match mx with
    | none => sliceX Ty t (ev x) (evlo s.slots lo) (evlo s.slots hi) o.dst s
    | some _ => none)
  | .extract x i => (match ev x with
    | .tup vs => (match vs[i]? with | some v => some (true, v, s) | none => none)
    | _ => none)
  | .makeSlice t len cap => makeX Ty t (ev len) (ev cap) o.dst s
  | .makeFunc fn first captured => some (true, .fn fn (evls s.slots first.toList) (evls s.slots captured.toList), s)
  | .call { callee := .builtin .len, args, argTypes } => (match args.toList, argTypes.toList with
    | [x], [t] => pure (lenX Ty t s.mem (ev x))
    | _, _ => none)
  | .call { callee := .builtin .append, args, argTypes } => (match args.toList, argTypes.toList with
    | [x, y], [t, t'] => (match Ty t' with
      | some { d := .slice _, .. } => appendX Ty t (ev x) (ev y) o.dst s
      | some { d := .str, .. } => appendX Ty t (ev x) (ev y) o.dst s
      | _ => none)
    | _, _ => none)
  | .call { callee := .builtin .copy, args, argTypes } => (match args.toList, argTypes.toList with
    | [x, y], [t, _] => copyX Ty t (ev x) (ev y) s
    | _, _ => none)
  | .call { callee := .builtin .min, args, .. } => (match evls s.slots args.toList with
    | [.int k a, .int k' b] => bif decide (k = k') then some (true, .int k (if b < a then b else a), s) else none
    | _ => none)
  | .call { callee := .builtin .max, args, .. } => (match evls s.slots args.toList with
    | [.int k a, .int k' b] => bif decide (k = k') then some (true, .int k (if a < b then b else a), s) else none
    | _ => none)
  | _ => none
end Sx

/-
  Sx, part 2: what a symbolic state says of a world, and what of it stays.
-/
set_option linter.unusedVariables false
set_option linter.unusedSimpArgs false
namespace Sx
open Go

/-- A type's shape is the program's. -/
def DOk : D → TypeDesc → Prop
  | .bool, .bool => True
  | .int k, .int k' => k = k'
  | .str, .string => True
  | .ptr e, .pointer e' => e = e'
  | .uptr, .unsafePointer => True
  | .slice e, .slice e' => e = e'
  | .array n e, .array n' e' => n = n' ∧ e = e'
  | .struct fs, .struct gs => gs.toList.map (fun f => (f.offset, f.type)) = fs
  | .other, .struct _ => False
  | .other, .array _ _ => False
  | .other, _ => True
  | _, _ => False

structure Env where
  P : Program
  Ty : Tys
  ng : Nat
  G : World → Prop

/-- A constant's value. -/
def valOf : SV → Option Value
  | .bool b => some (.bool b)
  | .int k n => some (.int k n)
  | .str s => some (.string s)
  | .pnil => some (.pointer none)
  | .snil => some (.slice none 0 0)
  | .opq v => if v.oneCell' then some v else none
  | _ => none

structure TyOk (P : Program) (t : TypeId) (d : TyD) : Prop where
  und : ∃ u, P.underlying t = some u ∧ DOk d.d u
  info : ∃ i z, P.info? t = some i ∧ i.size = d.size ∧ i.bytes = d.bytes ∧ i.zero = some z ∧ z.cells.size = d.size ∧ d.zero.length = d.size ∧ (∀ (j : Nat) (s : SV), d.zero[j]? = some s → ∃ u, valOf s = some u ∧ z.cells[j]? = some u)
  cells : d.cells.length = d.size
  pos : 0 < d.size
  one : d.d.isAgg = false → d.size = 1
  tyz : tyBCs d.cells d.zero = true
  ck : ∀ k, d.d = .int k → d.cells = [.int k]
  flds : ∀ gs, P.underlying t = some (.struct gs) → ∀ g, g ∈ gs.toList → ∃ i, P.info? g.type = some i
  eqv : d.eqOk = true → ∀ (xs ys : List SV) (r : Bool) (a b : List Value) (w : World), tyCs d.cells xs = true → tyCs d.cells ys = true → beqCells xs ys = some r →
    xs.map valOf = a.map some → ys.map valOf = b.map some → (Op.equal t (.agg a.toArray) (.agg b.toArray)).run P w = .ok r w ∧ (∀ op x y, (eqGuard op t x y (.agg a.toArray) (.agg b.toArray)).run P w = .ok () w)

structure EnvOk (E : Env) : Prop where
  ty : ∀ t d, E.Ty t = some d → TyOk E.P t d
  gG : ∀ w w' : World, E.G w → (∀ b, b < E.ng → w'.heap[b]? = w.heap[b]?) → w.heap.size ≤ w'.heap.size → E.G w'
  gn : ∀ w, E.G w → E.ng ≤ w.heap.size

/-- An element's form. -/
def okE (d : TyD) (x : SV) : Prop := x = ofCells d.d (cellsOf x) ∧ tyCs d.cells (cellsOf x) = true

abbrev Ren := Nat → Option Value

/-- What nobody writes any more: the value is told by what lies in blocks that are 'ok'. -/
inductive Rep (E : Env) (w : World) (ok : Nat → Prop) : SV → Value → Prop
  | bool (b : Bool) : Rep E w ok (.bool b) (.bool b)
  | int (k : IntKind) (n : Int) : Rep E w ok (.int k n) (.int k n)
  | str (s : ByteArray) : Rep E w ok (.str s) (.string s)
  | pnil : Rep E w ok .pnil (.pointer none)
  | opq (v : Value) (h : v.oneCell' = true) : Rep E w ok (.opq v) v
  | lst0 (e : TypeId) (A : Option Addr) (c : Nat) : Rep E w ok (.lst e []) (.slice A 0 c)
  | lst (e : TypeId) (d : TyD) (xs : List SV) (a : Addr) (c : Nat) (u : Nat → Nat → Value) (hd : E.Ty e = some d) (hc : xs.length ≤ c) (hm : xs.length ≤ maxLen) (hok : ok a.block)
      (hE : ∀ x, x ∈ xs → okE d x) (hcell : ∀ i j, i < xs.length → j < d.size → w.cell? (a.add (i * d.size + j)) = some (u i j))
      (hr : ∀ i j x s, xs[i]? = some x → (cellsOf x)[j]? = some s → Rep E w ok s (u i j)) : Rep E w ok (.lst e xs) (.slice (some a) xs.length c)

theorem cell?_congr {w w' : World} {a : Addr} {n : Nat} (h : w'.heap[a.block]? = w.heap[a.block]?) : w'.cell? (a.add n) = w.cell? (a.add n) := by
  have : (a.add n).block = a.block := by unfold Addr.add; split <;> rfl
  simp [World.cell?, this, h]

theorem Rep.frame {E : Env} {w w' : World} {ok ok' : Nat → Prop} (hw : ∀ b, ok b → w'.heap[b]? = w.heap[b]?) (hk : ∀ b, ok b → ok' b) {s : SV} {v : Value} (h : Rep E w ok s v) : Rep E w' ok' s v := by
  induction h with
  | bool b => exact .bool b
  | int k n => exact .int k n
  | str s => exact .str s
  | pnil => exact .pnil
  | opq v h => exact .opq v h
  | lst0 e A c => exact .lst0 e A c
  | lst e d xs a c u hd hc hm hok hE hcell hr ih =>
    exact .lst e d xs a c u hd hc hm (hk _ hok) hE (fun i j hi hj => by rw [cell?_congr (hw _ hok)]; exact hcell i j hi hj) (fun i j x s hx hs => ih i j x s hx hs)

/-- A value that may lead to own memory: 'ρ' tells each name's value. -/
inductive Rel (E : Env) (w : World) (ok : Nat → Prop) (ρ : Ren) : SV → Value → Prop
  | data (s : SV) (v : Value) (h : Rep E w ok s v) : Rel E w ok ρ s v
  | snil : Rel E w ok ρ .snil (.slice none 0 0)
  | box (id off b : Nat) (h : ρ id = some (.pointer (some ⟨b, 0, none⟩))) : Rel E w ok ρ (.box id off) (.pointer (some ⟨b, off, none⟩))
  | elt (id sz i off b n c : Nat) (h : ρ id = some (.slice (some ⟨b, 0, none⟩) n c)) (hi : i < n) : Rel E w ok ρ (.elt id sz i off) (.pointer (some ⟨b, i * sz + off, none⟩))
  | ael (id base sz n i off b : Nat) (h : ρ id = some (.pointer (some ⟨b, 0, none⟩))) (hi : i < n) : Rel E w ok ρ (.ael id base sz n i off) (.pointer (some ⟨b, base + i * sz + off, none⟩))
  | adr (cs : List SV) (a : Addr) (u : Nat → Value) (hok : ok a.block) (hcell : ∀ j, j < cs.length → w.cell? (a.add j) = some (u j)) (hr : ∀ j s, cs[j]? = some s → Rep E w ok s (u j)) : Rel E w ok ρ (.adr cs) (.pointer (some a))
  | row (id : Nat) (v : Value) (h : ρ id = some v) : Rel E w ok ρ (.row id) v
  | agg (cs : List SV) (vs : List Value) (hl : cs.length = vs.length) (hr : ∀ (j : Nat) s v, cs[j]? = some s → vs[j]? = some v → Rel E w ok ρ s v) : Rel E w ok ρ (.agg cs) (.agg vs.toArray)
  | tup (cs : List SV) (vs : List Value) (hl : cs.length = vs.length) (hr : ∀ (j : Nat) s v, cs[j]? = some s → vs[j]? = some v → Rel E w ok ρ s v) : Rel E w ok ρ (.tup cs) (.tuple vs.toArray)
  | fn (f : Fn) (fs cs : List SV) (gs ds : List Value) (hl : fs.length = gs.length) (hl' : cs.length = ds.length) (hr : ∀ (j : Nat) s v, fs[j]? = some s → gs[j]? = some v → Rel E w ok ρ s v)
      (hr' : ∀ (j : Nat) s v, cs[j]? = some s → ds[j]? = some v → Rel E w ok ρ s v) : Rel E w ok ρ (.fn f fs cs) (.func f gs.toArray ds.toArray)
  | dead (v : Value) : Rel E w ok ρ .dead v

theorem Rel.frame {E : Env} {w w' : World} {ok ok' : Nat → Prop} {ρ ρ' : Ren} (hw : ∀ b, ok b → w'.heap[b]? = w.heap[b]?) (hk : ∀ b, ok b → ok' b) (hρ : ∀ id v, ρ id = some v → ρ' id = some v) {s : SV} {v : Value} (h : Rel E w ok ρ s v) : Rel E w' ok' ρ' s v := by
  induction h with
  | data s v h => exact .data _ _ (h.frame hw hk)
  | snil => exact .snil
  | box id off b h => exact .box id off b (hρ _ _ h)
  | elt id sz i off b n c h hi => exact .elt id sz i off b n c (hρ _ _ h) hi
  | ael id base sz n i off b h hi => exact .ael id base sz n i off b (hρ _ _ h) hi
  | adr cs a u hok hcell hr => exact .adr cs a u (hk _ hok) (fun j hj => by rw [cell?_congr (hw _ hok)]; exact hcell j hj) (fun j s hs => (hr j s hs).frame hw hk)
  | row id v h => exact .row id v (hρ _ _ h)
  | agg cs vs hl hr ih => exact .agg cs vs hl ih
  | tup cs vs hl hr ih => exact .tup cs vs hl ih
  | fn f fs cs gs ds hl hl' hr hr' ih ih' => exact .fn f fs cs gs ds hl hl' ih ih'
  | dead v => exact .dead v

/-- The block that a name's value leads to. -/
def blkOf : Value → Option Nat
  | .pointer (some a) => some a.block
  | .slice (some a) _ _ => some a.block
  | _ => none

def own (ρ : Ren) (m : Mem) (b : Nat) : Prop := ∃ id o v, m.get id = some o ∧ ρ id = some v ∧ blkOf v = some b
/-- Blocks that are another's, and are to be left: their names are great. -/
def hid (ρ : Ren) (b : Nat) : Prop := ∃ id v, 1000000 ≤ id ∧ ρ id = some v ∧ blkOf v = some b
def okB (w : World) (ρ : Ren) (m : Mem) (b : Nat) : Prop := b < w.heap.size ∧ ¬ (own ρ m b ∨ hid ρ b)

/-- A row's cells are its elements'. -/
def RowCells (E : Env) (w : World) (ok : Nat → Prop) (d : TyD) (xs : List SV) (cells : List Value) : Prop :=
  (∀ x, x ∈ xs → okE d x) ∧ ∀ i j x s, xs[i]? = some x → (cellsOf x)[j]? = some s → ∃ u, cells[i * d.size + j]? = some u ∧ Rep E w ok s u

/-- A slice of one's own: nil, or the head of a row whose spare cells nobody knows; no cell of it is frozen. -/
def RowAt (w : World) (base : Nat) (e : TypeId) (size : Nat) (v : Value) (n : Nat) (xs : List Value) : Prop :=
  xs.length = n * size ∧ ((v = .slice none 0 0 ∧ n = 0) ∨
    ∃ g cap cur fr, v = .slice (some ⟨g, 0, none⟩) n cap ∧ base ≤ g ∧ w.heap[g]? = some (.cells cur e fr) ∧ (fr = (0, 0) ∨ cur.size ≤ fr.1) ∧ n ≤ cap ∧ cap ≤ maxLen ∧ cur.size = cap * size ∧ cur.toList.take (n * size) = xs)

inductive ObjOk (E : Env) (w : World) (ok : Nat → Prop) (ρ : Ren) (id : Nat) : SObj → Prop
  | box (t : TypeId) (d : TyD) (cs : List SV) (b : Nat) (vs : List Value) (hρ : ρ id = some (.pointer (some ⟨b, 0, none⟩))) (hd : E.Ty t = some d) (hb : w.heap[b]? = some (.cells vs.toArray t (0, 0))) (hng : E.ng ≤ b)
      (hl : cs.length = vs.length) (hty : tyBCs d.cells cs = true) (hr : ∀ (j : Nat) s v, cs[j]? = some s → vs[j]? = some v → Rel E w ok ρ s v) : ObjOk E w ok ρ id (.box t cs)
  | row (e : TypeId) (d : TyD) (xs : List SV) (v : Value) (cells : List Value) (hρ : ρ id = some v) (hd : E.Ty e = some d) (ho : RowAt w E.ng e d.size v xs.length cells)
      (h1 : ∀ u, u ∈ cells → u.oneCell' = true) (hc : RowCells E w ok d xs cells) : ObjOk E w ok ρ id (.row e xs)

/-- The state says of the world what it says. -/
structure MemOk (E : Env) (w : World) (ρ : Ren) (m : Mem) : Prop where
  obj : ∀ id o, m.get id = some o → ObjOk E w (okB w ρ m) ρ id o
  sep : ∀ i j o o' v v' b, i ≠ j → m.get i = some o → m.get j = some o' → ρ i = some v → ρ j = some v' → blkOf v = some b → blkOf v' ≠ some b
  hsep : ∀ b, own ρ m b → ¬ hid ρ b
  hlt : ∀ b, hid ρ b → b < w.heap.size

structure R (E : Env) (ρ : Ren) (s : St) (a : Act) (w : World) : Prop where
  len : s.slots.length = a.tmps.size
  slot : ∀ i v, a.tmps[i]? = some v → Rel E w (okB w ρ s.mem) ρ (getAt s.slots i) v
  mem : MemOk E w ρ s.mem
  used : ∀ id v, id < 1000000 → ρ id = some v → hasNat s.used id = true
  one : ∀ id v, ρ id = some v → v.oneCell' = true
  g : E.G w

/-- What was there and is not one's own is as it was. -/
structure Kept (W0 : Nat → Prop) (w w' : World) : Prop where
  os : w'.os = w.os
  tape : w'.tape = w.tape
  output : w'.output = w.output
  size : w.heap.size ≤ w'.heap.size
  block : ∀ b, b < w.heap.size → ¬ W0 b → w'.heap[b]? = w.heap[b]?
theorem Kept.refl (W0 : Nat → Prop) (w : World) : Kept W0 w w := ⟨rfl, rfl, rfl, Nat.le_refl _, fun _ _ _ => rfl⟩
theorem Kept.trans {W0 W1 : Nat → Prop} {a b c : World} (h : Kept W0 a b) (k : Kept W1 b c) (h1 : ∀ x, x < a.heap.size → W1 x → W0 x) : Kept W0 a c :=
  ⟨k.os.trans h.os, k.tape.trans h.tape, k.output.trans h.output, Nat.le_trans h.size k.size, fun x hx hn => (k.block x (Nat.lt_of_lt_of_le hx h.size) (fun q => hn (h1 x hx q))).trans (h.block x hx hn)⟩

/-! ### small laws on lists and names -/
theorem Mem.get_del_ne {m : Mem} {i j : Nat} (h : i ≠ j) : (m.del i).get j = m.get j := by
  induction m with
  | nil => rfl
  | cons p r ih =>
    obtain ⟨k, o⟩ := p
    by_cases hk : k = i
    · subst hk
      have e1 : Nat.beq k k = true := Nat.beq_refl k
      have e2 : Nat.beq k j = false := by rw [← Bool.not_eq_true]; intro q; exact h (Nat.eq_of_beq_eq_true q)
      simp [Mem.del, Mem.get, e1, e2, ih]
    · have e1 : Nat.beq k i = false := by rw [← Bool.not_eq_true]; intro q; exact hk (Nat.eq_of_beq_eq_true q)
      simp [Mem.del, Mem.get, e1, ih]
theorem Mem.get_del_self (m : Mem) (i : Nat) : (m.del i).get i = none := by
  induction m with
  | nil => rfl
  | cons p r ih =>
    obtain ⟨k, o⟩ := p
    by_cases hk : k = i
    · subst hk
      have e1 : Nat.beq k k = true := Nat.beq_refl k
      simp [Mem.del, e1, ih]
    · have e1 : Nat.beq k i = false := by rw [← Bool.not_eq_true]; intro q; exact hk (Nat.eq_of_beq_eq_true q)
      simp [Mem.del, Mem.get, e1, ih]
theorem Mem.get_del {m : Mem} {i j : Nat} {o : SObj} (h : (m.del i).get j = some o) : i ≠ j ∧ m.get j = some o := by
  by_cases e : i = j
  · subst e; rw [Mem.get_del_self] at h; cases h
  · exact ⟨e, by rwa [Mem.get_del_ne e] at h⟩
theorem Mem.get_cons_self (m : Mem) (i : Nat) (o : SObj) : Mem.get ((i, o) :: m) i = some o := by
  have e1 : Nat.beq i i = true := Nat.beq_refl i
  simp [Mem.get, e1]
theorem Mem.get_cons_ne {m : Mem} {i j : Nat} {o : SObj} (h : i ≠ j) : Mem.get ((i, o) :: m) j = m.get j := by
  have e1 : Nat.beq i j = false := by rw [← Bool.not_eq_true]; intro q; exact h (Nat.eq_of_beq_eq_true q)
  simp [Mem.get, e1]
theorem Mem.get_put_self (m : Mem) (i : Nat) (o : SObj) : (m.put i o).get i = some o := Mem.get_cons_self _ _ _
theorem Mem.get_put_ne {m : Mem} {i j : Nat} {o : SObj} (h : i ≠ j) : (m.put i o).get j = m.get j := by
  unfold Mem.put; rw [Mem.get_cons_ne h, Mem.get_del_ne h]

theorem setAt_length (l : List SV) (n : Nat) (v : SV) : (setAt l n v).length = l.length := by
  induction l generalizing n with
  | nil => rfl
  | cons a l ih => cases n <;> simp [setAt, ih]
theorem getAt_setAt_ne {l : List SV} {n m : Nat} {v : SV} (h : n ≠ m) : getAt (setAt l n v) m = getAt l m := by
  induction l generalizing n m with
  | nil => rfl
  | cons a l ih =>
    cases n <;> cases m <;> simp_all [setAt, getAt]
theorem getAt_setAt_self {l : List SV} {n : Nat} {v : SV} (h : n < l.length) : getAt (setAt l n v) n = v := by
  induction l generalizing n with
  | nil => simp at h
  | cons a l ih => cases n <;> simp_all [setAt, getAt]
theorem getAt_eq (l : List SV) (n : Nat) : getAt l n = (l[n]?).getD .dead := by
  induction l generalizing n with
  | nil => rfl
  | cons a l ih => cases n <;> simp [getAt, ih]
theorem setAt_eq (l : List SV) (n : Nat) (v : SV) : setAt l n v = l.set n v := by
  induction l generalizing n with
  | nil => rfl
  | cons a l ih => cases n <;> simp [setAt, ih]
end Sx

/-
  Sx, part 3: how what a state says passes on, from world to world.
-/
set_option linter.unusedVariables false
set_option linter.unusedSimpArgs false
namespace Sx
open Go

theorem own_lt {E : Env} {w : World} {ρ : Ren} {m : Mem} (h : MemOk E w ρ m) {b : Nat} (hb : own ρ m b) : b < w.heap.size ∧ E.ng ≤ b := by
  obtain ⟨id, o, v, hg, hv, hk⟩ := hb
  cases h.obj id o hg with
  | box t d cs b' vs hρ hd hb hng hl hty hr =>
    rw [hρ] at hv; cases hv
    simp [blkOf] at hk; subst hk
    exact ⟨(Array.getElem?_eq_some_iff.1 hb).1, hng⟩
  | row e d xs v' cells hρ hd ho h1 hc =>
    rw [hρ] at hv; cases hv
    rcases ho.2 with ⟨rfl, _⟩ | ⟨g, cap, cur, fr, rfl, hg', hh, _⟩
    · simp [blkOf] at hk
    · simp [blkOf] at hk; subst hk
      exact ⟨(Array.getElem?_eq_some_iff.1 hh).1, hg'⟩

theorem RowAt.frame {w w' : World} {base : Nat} {e : TypeId} {size : Nat} {v : Value} {n : Nat} {xs : List Value} (h : RowAt w base e size v n xs) (hb : ∀ b, blkOf v = some b → w'.heap[b]? = w.heap[b]?) : RowAt w' base e size v n xs := by
  refine ⟨h.1, ?_⟩
  rcases h.2 with hn | ⟨g, cap, cur, fr, rfl, hbg, hg, r⟩
  · exact .inl hn
  · exact .inr ⟨g, cap, cur, fr, rfl, hbg, (hb g rfl).trans hg, r⟩
theorem RowAt.of_own {w : World} {base : Nat} {e : TypeId} {size : Nat} {v : Value} {n : Nat} {xs : List Value} (h : w.ownsRow base e size v n xs) : RowAt w base e size v n xs := by
  refine ⟨h.1, ?_⟩
  rcases h.2 with hn | ⟨g, cap, cur, rfl, hbg, hg, r⟩
  · exact .inl hn
  · exact .inr ⟨g, cap, cur, (0, 0), rfl, hbg, hg, .inl rfl, r⟩

theorem RowCells.frame {E : Env} {w w' : World} {ok ok' : Nat → Prop} {d : TyD} {xs : List SV} {cells : List Value} (hw : ∀ b, ok b → w'.heap[b]? = w.heap[b]?) (hk : ∀ b, ok b → ok' b) (h : RowCells E w ok d xs cells) : RowCells E w' ok' d xs cells :=
  ⟨h.1, fun i j x s hx hs => let ⟨u, hu, hr⟩ := h.2 i j x s hx hs; ⟨u, hu, hr.frame hw hk⟩⟩

theorem ObjOk.frame {E : Env} {w w' : World} {ok ok' : Nat → Prop} {ρ ρ' : Ren} {id : Nat} {o : SObj} (hw : ∀ b, ok b → w'.heap[b]? = w.heap[b]?) (hk : ∀ b, ok b → ok' b) (hρ : ∀ id v, ρ id = some v → ρ' id = some v)
    (hb : ∀ v b, ρ id = some v → blkOf v = some b → w'.heap[b]? = w.heap[b]?) (h : ObjOk E w ok ρ id o) : ObjOk E w' ok' ρ' id o := by
  cases h with
  | box t d cs b vs h1 hd h2 hng hl hty hr => exact .box t d cs b vs (hρ _ _ h1) hd ((hb _ _ h1 rfl).trans h2) hng hl hty (fun j s v hs hv => (hr j s v hs hv).frame hw hk hρ)
  | row e d xs v cells h1 hd ho hone hc => exact .row e d xs v cells (hρ _ _ h1) hd (ho.frame (fun b hb' => hb _ _ h1 hb')) hone (hc.frame hw hk)

/-- The state goes on in another world: what is not one's own is as it was. -/
theorem R.next {E : Env} (hE : EnvOk E) {ρ ρ' : Ren} {s : St} {a : Act} {w w' : World} (h : R E ρ s a w) {m' : Mem} {used' : List Nat} (hρ : ∀ id v, ρ id = some v → ρ' id = some v)
    (hown : ∀ b, own ρ' m' b → own ρ s.mem b ∨ w.heap.size ≤ b) (hhid : ∀ b, hid ρ' b → hid ρ b) (hsz : w.heap.size ≤ w'.heap.size) (hfr : ∀ b, b < w.heap.size → ¬ own ρ s.mem b → w'.heap[b]? = w.heap[b]?) (hm : MemOk E w' ρ' m')
    (hu : ∀ id v, id < 1000000 → ρ' id = some v → hasNat used' id = true) (h1 : ∀ id v, ρ' id = some v → v.oneCell' = true) : R E ρ' ⟨s.slots, m', used'⟩ a w' := by
  have hok : ∀ b, okB w ρ s.mem b → okB w' ρ' m' b := fun b hb => ⟨Nat.lt_of_lt_of_le hb.1 hsz, fun q => by
    rcases q with q | q
    · rcases hown b q with q | q
      · exact hb.2 (.inl q)
      · exact absurd hb.1 (by omega)
    · exact hb.2 (.inr (hhid b q))⟩
  refine ⟨h.len, fun i v hi => (h.slot i v hi).frame (fun b hb => hfr b hb.1 (fun q => hb.2 (.inl q))) hok hρ, hm, hu, h1, ?_⟩
  refine hE.gG w w' h.g (fun b hb => ?_) hsz
  by_cases q : own ρ s.mem b
  · have := (own_lt h.mem q).2; omega
  · have := hE.gn w h.g
    exact hfr b (by omega) q

theorem own_sub {ρ : Ren} {m m' : Mem} (h : ∀ id o, m'.get id = some o → m.get id = some o) {b : Nat} (hb : own ρ m' b) : own ρ m b :=
  let ⟨id, o, v, hg, r⟩ := hb; ⟨id, o, v, h id o hg, r⟩

theorem memLess {E : Env} {w : World} {ρ : Ren} {m m1 : Mem} (hm : MemOk E w ρ m) (hsub : ∀ id o, m1.get id = some o → m.get id = some o) : MemOk E w ρ m1 :=
  ⟨fun id o hg => (hm.obj id o (hsub id o hg)).frame (fun _ _ => rfl) (fun b hb => ⟨hb.1, fun q => hb.2 (q.imp (own_sub hsub) (fun x => x))⟩) (fun _ _ x => x) (fun _ _ _ _ => rfl), fun i j o o' v v' b hij hi hj => hm.sep i j o o' v v' b hij (hsub _ _ hi) (hsub _ _ hj),
    fun b hb => hm.hsep b (own_sub hsub hb), hm.hlt⟩

/-- Part of the memory is one's own no more. -/
theorem R.less {E : Env} (hE : EnvOk E) {ρ : Ren} {s : St} {a : Act} {w : World} (h : R E ρ s a w) {m' : Mem} (hs : ∀ id o, m'.get id = some o → s.mem.get id = some o) : R E ρ ⟨s.slots, m', s.used⟩ a w := by
  refine h.next hE (fun _ _ x => x) (fun b hb => .inl (own_sub hs hb)) (fun _ x => x) (Nat.le_refl _) (fun _ _ _ => rfl) ?_ h.used h.one
  refine ⟨fun id o hg => (h.mem.obj id o (hs id o hg)).frame (fun _ _ => rfl) (fun b hb => ⟨hb.1, fun q => hb.2 (q.imp (own_sub hs) (fun x => x))⟩) (fun _ _ x => x) (fun _ _ _ _ => rfl), fun i j o o' v v' b hij hi hj => h.mem.sep i j o o' v v' b hij (hs _ _ hi) (hs _ _ hj), fun b hb => h.mem.hsep b (own_sub hs hb), h.mem.hlt⟩

/-- A world in which only draws were made. -/
theorem R.same {E : Env} (hE : EnvOk E) {ρ : Ren} {s : St} {a : Act} {w w' : World} (h : R E ρ s a w) (hh : w'.heap = w.heap) : R E ρ s a w' := by
  refine h.next hE (fun _ _ x => x) (fun b hb => .inl hb) (fun _ x => x) (by rw [hh]; exact Nat.le_refl _) (fun b _ _ => by rw [hh]) ?_ h.used h.one
  exact ⟨fun id o hg => (h.mem.obj id o hg).frame (fun b _ => by rw [hh]) (fun b hb => ⟨by rw [hh]; exact hb.1, hb.2⟩) (fun _ _ x => x) (fun _ b _ _ => by rw [hh]), h.mem.sep, h.mem.hsep, fun b hb => by rw [hh]; exact h.mem.hlt b hb⟩

def upd (ρ : Ren) (id : Nat) (v : Value) : Ren := fun j => if j = id then some v else ρ j

theorem hid_upd {ρ : Ren} {id : Nat} {v : Value} (h : id < 1000000) : ∀ b, hid (upd ρ id v) b → hid ρ b := fun b ⟨i, u, hi, hu, hb⟩ => by
  refine ⟨i, u, hi, ?_, hb⟩
  unfold upd at hu
  rw [if_neg (by omega)] at hu
  exact hu
theorem fresh_eq {s s' : St} {d : Option Tmp} {o : SObj} {id : Nat} (h : s.fresh d o = some (id, s')) : hasNat s.used id = false ∧ s' = ⟨s.slots, (id, o) :: s.mem, id :: s.used⟩ ∧ id < 1000000 := by
  cases d with
  | none => simp [St.fresh] at h
  | some t =>
    simp only [St.fresh] at h
    cases hq : hasNat s.used (1000 + t) with
    | true => simp [hq] at h
    | false =>
      cases hb : Nat.ble 900000 t with
      | true => simp [hq, hb] at h
      | false =>
        cases hm : s.mem.has (1000 + t) with
        | true => simp [hq, hb, hm] at h
        | false =>
        have hlt : t < 900000 := Nat.lt_of_not_le (fun q => by rw [Nat.ble_eq_true_of_le q] at hb; cases hb)
        have hlt2 : 1000 + t < 1000000 := Nat.lt_of_lt_of_le (Nat.add_lt_add_left hlt 1000) (by decide)
        simp [hq, hb, hm] at h; obtain ⟨rfl, rfl⟩ := h; exact ⟨hq, rfl, hlt2⟩

theorem fresh_not {s s' : St} {d : Option Tmp} {o : SObj} {id : Nat} (h : s.fresh d o = some (id, s')) : s.mem.get id = none := by
  cases d with
  | none => simp [St.fresh] at h
  | some t =>
    simp only [St.fresh] at h
    cases hm : s.mem.has (1000 + t) with
    | true => simp [hm] at h
    | false =>
      cases hq : hasNat s.used (1000 + t) with
      | true => simp [hq] at h
      | false =>
        cases hb : Nat.ble 900000 t with
        | true => simp [hq, hb] at h
        | false =>
          simp [hq, hb, hm] at h
          obtain ⟨rfl, rfl⟩ := h
          unfold Mem.has at hm
          split at hm
          · cases hm
          · assumption
theorem hasNat_cons (l : List Nat) (a x : Nat) : hasNat (a :: l) x = (Nat.beq a x || hasNat l x) := rfl

/-- Something new is made (or takes the place of what was one's own): its value is told by a new name. -/
theorem R.made {E : Env} (hE : EnvOk E) {ρ : Ren} {s : St} {a : Act} {w w' : World} (h : R E ρ s a w) {m0 : Mem} (hm0 : ∀ id o, m0.get id = some o → s.mem.get id = some o) {d : Option Tmp} {o : SObj} {id : Nat} {s' : St}
    (hf : (⟨s.slots, m0, s.used⟩ : St).fresh d o = some (id, s')) (v : Value) (hv : v.oneCell' = true) (hblk : ∀ b, blkOf v = some b → w.heap.size ≤ b ∨ (own ρ s.mem b ∧ ¬ own ρ m0 b))
    (hsz : w.heap.size ≤ w'.heap.size) (hfr : ∀ b, b < w.heap.size → blkOf v ≠ some b → w'.heap[b]? = w.heap[b]?)
    (hobj : ∀ ok' : Nat → Prop, (∀ b, okB w ρ m0 b → blkOf v ≠ some b → ok' b) → ObjOk E w' ok' (upd ρ id v) id o) :
    R E (upd ρ id v) s' a w' ∧ (∀ b, own (upd ρ id v) s'.mem b → own ρ s.mem b ∨ w.heap.size ≤ b) ∧ (∀ i u, ρ i = some u → upd ρ id v i = some u) := by
  obtain ⟨hnew, rfl, hsmall⟩ := fresh_eq hf
  have hno : ρ id = none := by
    cases hq : ρ id with
    | none => rfl
    | some u => have := h.used id u hsmall hq; rw [hnew] at this; cases this
  have hext : ∀ i u, ρ i = some u → upd ρ id v i = some u := fun i u hi => by
    unfold upd; split
    · rename_i e; rw [e, hno] at hi; cases hi
    · exact hi
  have hless := h.less hE hm0
  have hown : ∀ b, own (upd ρ id v) ((id, o) :: m0) b → own ρ m0 b ∨ blkOf v = some b := by
    rintro b ⟨i, oi, u, hg, hu, hk⟩
    by_cases e : id = i
    · subst e; simp [upd] at hu; subst hu; exact .inr hk
    · rw [Mem.get_cons_ne e] at hg
      have : ρ i = some u := by simpa [upd, Ne.symm e] using hu
      exact .inl ⟨i, oi, u, hg, this, hk⟩
  have hown' : ∀ b, own (upd ρ id v) ((id, o) :: m0) b → own ρ s.mem b ∨ w.heap.size ≤ b := fun b hb => by
    rcases hown b hb with q | q
    · exact .inl (own_sub hm0 q)
    · rcases hblk b q with q | q
      · exact .inr q
      · exact .inl q.1
  have hhid : ∀ b, hid (upd ρ id v) b → hid ρ b := fun b ⟨i, u, h1, h2, h3⟩ => ⟨i, u, h1, by
    have : i ≠ id := by omega
    simpa [upd, this] using h2, h3⟩
  have hok : ∀ b, okB w ρ s.mem b → okB w' (upd ρ id v) ((id, o) :: m0) b := fun b hb => ⟨Nat.lt_of_lt_of_le hb.1 hsz, fun q => by
    rcases q with q | q
    · rcases hown' b q with q | q
      · exact hb.2 (.inl q)
      · exact absurd hb.1 (by omega)
    · exact hb.2 (.inr (hhid b q))⟩
  have hfr' : ∀ b, b < w.heap.size → ¬ own ρ s.mem b → w'.heap[b]? = w.heap[b]? := fun b hb hq => hfr b hb (fun e => by
    rcases hblk b e with q | q
    · omega
    · exact hq q.1)
  refine ⟨h.next hE hext hown' hhid hsz hfr' ⟨?_, ?_, ?_, fun b hb => Nat.lt_of_lt_of_le (h.mem.hlt b (hhid b hb)) hsz⟩ ?_ ?_, hown', hext⟩
  · intro i oi hg
    by_cases e : id = i
    · subst e; rw [Mem.get_cons_self] at hg; cases hg
      exact hobj _ (fun b hb hn => ⟨Nat.lt_of_lt_of_le hb.1 hsz, fun q => by
        rcases q with q | q
        · rcases hown b q with q | q
          · exact hb.2 (.inl q)
          · exact hn q
        · exact hb.2 (.inr (hhid b q))⟩)
    · rw [Mem.get_cons_ne e] at hg
      refine (h.mem.obj i oi (hm0 _ _ hg)).frame (fun b hb => hfr' b hb.1 (fun q => hb.2 (.inl q))) hok hext (fun u b hu hb => hfr b ?_ ?_)
      · exact (own_lt h.mem ⟨i, oi, u, hm0 _ _ hg, hu, hb⟩).1
      · intro q
        rcases hblk b q with q | q
        · have := (own_lt h.mem ⟨i, oi, u, hm0 _ _ hg, hu, hb⟩).1; omega
        · exact q.2 ⟨i, oi, u, hg, hu, hb⟩
  · intro i j oi oj u u' b hij hi hj hu hu' hb hb'
    by_cases e : id = i
    · subst e
      have hj' : m0.get j = some oj := by rwa [Mem.get_cons_ne hij] at hj
      have hu2 : ρ j = some u' := by simpa [upd, Ne.symm hij] using hu'
      have hu1 : v = u := by simpa [upd] using hu
      subst hu1
      rcases hblk b hb with q | q
      · have := (own_lt h.mem ⟨j, oj, u', hm0 _ _ hj', hu2, hb'⟩).1; omega
      · exact q.2 ⟨j, oj, u', hj', hu2, hb'⟩
    · rw [Mem.get_cons_ne e] at hi
      have hu1 : ρ i = some u := by simpa [upd, Ne.symm e] using hu
      by_cases e' : id = j
      · subst e'
        have hu2 : v = u' := by simpa [upd] using hu'
        subst hu2
        rcases hblk b hb' with q | q
        · have := (own_lt h.mem ⟨i, oi, u, hm0 _ _ hi, hu1, hb⟩).1; omega
        · exact q.2 ⟨i, oi, u, hi, hu1, hb⟩
      · rw [Mem.get_cons_ne e'] at hj
        have hu2 : ρ j = some u' := by simpa [upd, Ne.symm e'] using hu'
        exact h.mem.sep i j oi oj u u' b hij (hm0 _ _ hi) (hm0 _ _ hj) hu1 hu2 hb hb'
  · intro b hb hq
    have hq := hhid b hq
    rcases hown b hb with q | q
    · exact h.mem.hsep b (own_sub hm0 q) hq
    · rcases hblk b q with q | q
      · have := h.mem.hlt b hq; omega
      · exact h.mem.hsep b q.1 hq
  · intro i u hlt hi
    rw [hasNat_cons]
    by_cases e : i = id
    · subst e; simp [Nat.beq_refl]
    · have : ρ i = some u := by simpa [upd, e] using hi
      rw [h.used i u hlt this]; simp
  · intro i u hi
    by_cases e : i = id
    · subst e; simp [upd] at hi; subst hi; exact hv
    · exact h.one i u (by simpa [upd, e] using hi)

/-- One's own object is written. -/
theorem R.wrote {E : Env} (hE : EnvOk E) {ρ : Ren} {s : St} {a : Act} {w w' : World} (h : R E ρ s a w) {m0 : Mem} (hm0 : ∀ id o, m0.get id = some o → s.mem.get id = some o) {id : Nat} {o o' : SObj} (hg : m0.get id = some o)
    (hsz : w.heap.size ≤ w'.heap.size) (hfr : ∀ b, b < w.heap.size → (∀ v, ρ id = some v → blkOf v ≠ some b) → w'.heap[b]? = w.heap[b]?)
    (hobj : ∀ ok' : Nat → Prop, (∀ b, okB w ρ m0 b → ok' b) → ObjOk E w' ok' ρ id o') :
    R E ρ ⟨s.slots, m0.put id o', s.used⟩ a w' ∧ (∀ b, own ρ (m0.put id o') b → own ρ s.mem b) := by
  have hown : ∀ b, own ρ (m0.put id o') b → own ρ m0 b := by
    rintro b ⟨i, oi, u, hi, hu, hk⟩
    by_cases e : id = i
    · subst e; exact ⟨id, o, u, hg, hu, hk⟩
    · rw [Mem.get_put_ne e] at hi; exact ⟨i, oi, u, hi, hu, hk⟩
  have hown2 : ∀ b, own ρ m0 b → own ρ (m0.put id o') b := by
    rintro b ⟨i, oi, u, hi, hu, hk⟩
    by_cases e : id = i
    · subst e; exact ⟨id, o', u, Mem.get_put_self _ _ _, hu, hk⟩
    · exact ⟨i, oi, u, by rw [Mem.get_put_ne e]; exact hi, hu, hk⟩
  have hless := h.less hE hm0
  have hok : ∀ b, okB w ρ m0 b → okB w' ρ (m0.put id o') b := fun b hb => ⟨Nat.lt_of_lt_of_le hb.1 hsz, fun q => hb.2 (q.imp (hown b) (fun x => x))⟩
  have hfr' : ∀ b, b < w.heap.size → ¬ own ρ m0 b → w'.heap[b]? = w.heap[b]? := fun b hb hq => hfr b hb (fun v hv e => hq ⟨id, o, v, hg, hv, e⟩)
  refine ⟨hless.next hE (fun _ _ x => x) (fun b hb => .inl (hown b hb)) (fun _ x => x) hsz hfr' ⟨?_, ?_, fun b hb => hless.mem.hsep b (hown b hb), fun b hb => Nat.lt_of_lt_of_le (h.mem.hlt b hb) hsz⟩ h.used h.one, fun b hb => own_sub hm0 (hown b hb)⟩
  · intro i oi hi
    by_cases e : id = i
    · subst e; rw [Mem.get_put_self] at hi; cases hi; exact hobj _ hok
    · rw [Mem.get_put_ne e] at hi
      refine (hless.mem.obj i oi hi).frame (fun b hb => hfr' b hb.1 (fun q => hb.2 (.inl q))) hok (fun _ _ x => x) (fun u b hu hb => hfr b ?_ ?_)
      · exact (own_lt hless.mem ⟨i, oi, u, hi, hu, hb⟩).1
      · intro v hv q
        exact hless.mem.sep id i o oi v u b e hg hi hv hu q hb
  · intro i j oi oj u u' b hij hi hj hu hu' hb hb'
    have f : ∀ k ok, (m0.put id o').get k = some ok → ∃ ok', m0.get k = some ok' := fun k ok hk => by
      by_cases e : id = k
      · subst e; exact ⟨o, hg⟩
      · rw [Mem.get_put_ne e] at hk; exact ⟨ok, hk⟩
    obtain ⟨oi', hi'⟩ := f i oi hi
    obtain ⟨oj', hj'⟩ := f j oj hj
    exact hless.mem.sep i j oi' oj' u u' b hij hi' hj' hu hu' hb hb'
end Sx

/-
  Sx, part 4: the operations: what the executor says of one is what the machine does.
-/
set_option linter.unusedVariables false
set_option linter.unusedSimpArgs false
namespace Sx
open Go

section
variable {E : Env} {w : World} {ok : Nat → Prop} {ρ : Ren} {v : Value}
theorem inv_int {k : IntKind} {n : Int} (h : Rel E w ok ρ (.int k n) v) : v = .int k n := by cases h with | data _ _ h => cases h; rfl
theorem inv_bool {b : Bool} (h : Rel E w ok ρ (.bool b) v) : v = .bool b := by cases h with | data _ _ h => cases h; rfl
theorem inv_str {s : ByteArray} (h : Rel E w ok ρ (.str s) v) : v = .string s := by cases h with | data _ _ h => cases h; rfl
theorem inv_pnil (h : Rel E w ok ρ .pnil v) : v = .pointer none := by cases h with | data _ _ h => cases h; rfl
theorem inv_snil (h : Rel E w ok ρ .snil v) : v = .slice none 0 0 := by cases h with | data _ _ h => cases h | snil => rfl
theorem inv_box {id off : Nat} (h : Rel E w ok ρ (.box id off) v) : ∃ b, ρ id = some (.pointer (some ⟨b, 0, none⟩)) ∧ v = .pointer (some ⟨b, off, none⟩) := by
  cases h with
  | data _ _ h => cases h
  | box _ _ b h => exact ⟨b, h, rfl⟩
theorem inv_elt {id sz i off : Nat} (h : Rel E w ok ρ (.elt id sz i off) v) : ∃ b n c, ρ id = some (.slice (some ⟨b, 0, none⟩) n c) ∧ i < n ∧ v = .pointer (some ⟨b, i * sz + off, none⟩) := by
  cases h with
  | data _ _ h => cases h
  | elt _ _ _ _ b n c h hi => exact ⟨b, n, c, h, hi, rfl⟩
theorem inv_ael {id base sz n i off : Nat} (h : Rel E w ok ρ (.ael id base sz n i off) v) : ∃ b, ρ id = some (.pointer (some ⟨b, 0, none⟩)) ∧ i < n ∧ v = .pointer (some ⟨b, base + i * sz + off, none⟩) := by
  cases h with
  | data _ _ h => cases h
  | ael _ _ _ _ _ _ b h hi => exact ⟨b, h, hi, rfl⟩
theorem inv_adr {cs : List SV} (h : Rel E w ok ρ (.adr cs) v) : ∃ (a : Addr) (u : Nat → Value), v = .pointer (some a) ∧ ok a.block ∧ (∀ j, j < cs.length → w.cell? (a.add j) = some (u j)) ∧ (∀ (j : Nat) s, cs[j]? = some s → Rep E w ok s (u j)) := by
  cases h with
  | data _ _ h => cases h
  | adr _ a u h1 h2 h3 => exact ⟨a, u, rfl, h1, h2, h3⟩
theorem inv_row {id : Nat} (h : Rel E w ok ρ (.row id) v) : ρ id = some v := by
  cases h with
  | data _ _ h => cases h
  | row _ _ h => exact h
theorem inv_lst {e : TypeId} {xs : List SV} (h : Rel E w ok ρ (.lst e xs) v) : Rep E w ok (.lst e xs) v := by
  cases h with
  | data _ _ h => exact h
theorem inv_agg {cs : List SV} (h : Rel E w ok ρ (.agg cs) v) : ∃ vs : List Value, v = .agg vs.toArray ∧ cs.length = vs.length ∧ ∀ (j : Nat) s u, cs[j]? = some s → vs[j]? = some u → Rel E w ok ρ s u := by
  cases h with
  | data _ _ h => cases h
  | agg _ vs hl hr => exact ⟨vs, rfl, hl, hr⟩
theorem inv_tup {cs : List SV} (h : Rel E w ok ρ (.tup cs) v) : ∃ vs : List Value, v = .tuple vs.toArray ∧ cs.length = vs.length ∧ ∀ (j : Nat) s u, cs[j]? = some s → vs[j]? = some u → Rel E w ok ρ s u := by
  cases h with
  | data _ _ h => cases h
  | tup _ vs hl hr => exact ⟨vs, rfl, hl, hr⟩
theorem inv_fn {f : Fn} {fs cs : List SV} (h : Rel E w ok ρ (.fn f fs cs) v) : ∃ gs ds : List Value, v = .func f gs.toArray ds.toArray ∧ fs.length = gs.length ∧ cs.length = ds.length ∧
    (∀ (j : Nat) s u, fs[j]? = some s → gs[j]? = some u → Rel E w ok ρ s u) ∧ (∀ (j : Nat) s u, cs[j]? = some s → ds[j]? = some u → Rel E w ok ρ s u) := by
  cases h with
  | data _ _ h => cases h
  | fn _ _ _ gs ds h1 h2 h3 h4 => exact ⟨gs, ds, rfl, h1, h2, h3, h4⟩
theorem inv_opq {u : Value} (h : Rel E w ok ρ (.opq u) v) : v = u ∧ u.oneCell' = true := by cases h with | data _ _ h => cases h; exact ⟨rfl, by assumption⟩

theorem rel_int (k : IntKind) (n : Int) : Rel E w ok ρ (.int k n) (.int k n) := .data _ _ (.int k n)
theorem rel_bool (b : Bool) : Rel E w ok ρ (.bool b) (.bool b) := .data _ _ (.bool b)
theorem rel_str (s : ByteArray) : Rel E w ok ρ (.str s) (.string s) := .data _ _ (.str s)

theorem rel_konst1 (u : Value) : Rel E w ok ρ (konst1 u) u := by
  unfold konst1
  split
  · exact rel_bool _
  · exact rel_int _ _
  · exact rel_str _
  · exact .data _ _ .pnil
  · exact .snil
  · exact .dead _
  · exact .dead _
  · rename_i h1 h2 h3 h4 h5 h6 h7
    refine .data _ _ (.opq _ ?_)
    cases u <;> first | rfl | exact absurd rfl (h6 _) | exact absurd rfl (h7 _)
theorem rel_konst (u : Value) : Rel E w ok ρ (konst u) u := by
  unfold konst
  split
  · rename_i cs
    have h := Rel.agg (E := E) (w := w) (ok := ok) (ρ := ρ) (cs.toList.map konst1) cs.toList (by simp) (fun j s u hs hu => by
      rw [List.getElem?_map, hu] at hs
      simp at hs
      rw [← hs]; exact rel_konst1 u)
    simpa using h
  · exact rel_konst1 _
end

/-- Lists, cell by cell. -/
def RelL (E : Env) (w : World) (ok : Nat → Prop) (ρ : Ren) (cs : List SV) (vs : List Value) : Prop :=
  cs.length = vs.length ∧ ∀ (j : Nat) s u, cs[j]? = some s → vs[j]? = some u → Rel E w ok ρ s u

theorem R.eval {E : Env} {ρ : Ren} {s : St} {a : Act} {w : World} (h : R E ρ s a w) (x : Operand) : Rel E w (okB w ρ s.mem) ρ (evl s.slots x) (a.eval x) := by
  cases x with
  | tmp t =>
    simp only [evl, Act.eval]
    cases ht : a.tmps[t]? with
    | some v =>
      have := h.slot t v ht
      rw [Array.getD_eq_getD_getElem?, ht]; exact this
    | none =>
      have : s.slots.length ≤ t := by rw [h.len]; exact Array.getElem?_eq_none_iff.1 ht
      rw [getAt_eq, List.getElem?_eq_none this]
      exact .dead _
  | const v => exact rel_konst v
  | global g => exact .data _ _ (.opq _ rfl)
  | func f =>
    have := Rel.fn (E := E) (w := w) (ok := okB w ρ s.mem) (ρ := ρ) (.func f) [] [] [] [] rfl rfl (by simp) (by simp)
    exact this

theorem cells_of_one {v : Value} (h : v.oneCell' = true) : v.cells = #[v] := by cases v <;> first | rfl | (simp [Value.oneCell'] at h)

theorem Rel.one {E : Env} {w : World} {ok : Nat → Prop} {ρ : Ren} {s : SV} {v : Value} (h1 : ∀ id v, ρ id = some v → v.oneCell' = true) (hc : cellish s = true) (h : Rel E w ok ρ s v) : v.oneCell' = true := by
  cases h with
  | data _ _ h => cases h <;> first | rfl | assumption
  | row id v h => exact h1 _ _ h
  | agg => simp [cellish] at hc
  | tup => simp [cellish] at hc
  | dead => simp [cellish] at hc
  | _ => rfl

theorem cellsOf_cellish {s : SV} (h : cellish s = true) : cellsOf s = [s] := by cases s <;> first | rfl | (simp [cellish] at h)

/-- A value's cells, where none of them is unknown as a whole. -/
theorem Rel.cells {E : Env} {w : World} {ok : Nat → Prop} {ρ : Ren} {s : SV} {v : Value} (h1 : ∀ id v, ρ id = some v → v.oneCell' = true) (hc : cellish s = true ∨ ∃ cs, s = .agg cs) (h : Rel E w ok ρ s v) : RelL E w ok ρ (cellsOf s) v.cells.toList := by
  rcases hc with hc | ⟨cs, rfl⟩
  · rw [cellsOf_cellish hc, cells_of_one (h.one h1 hc)]
    refine ⟨rfl, fun j s' u hs hu => ?_⟩
    cases j with
    | zero => simp at hs hu; subst hs; subst hu; exact h
    | succ j => simp at hs
  · obtain ⟨vs, rfl, hl, hr⟩ := inv_agg h
    exact ⟨by simpa [cellsOf, Value.cells] using hl, fun j s u hs hu => hr j s u hs (by simpa [Value.cells] using hu)⟩

/-- What an operation comes to. -/
structure Comes1 (E : Env) (ρ : Ren) (s : St) (a : Act) (w : World) (sv : SV) (s' : St) (v : Value) (ρ' : Ren) (w' : World) : Prop where
  r : R E ρ' s' a w'
  rel : Rel E w' (okB w' ρ' s'.mem) ρ' sv v
  ext : ∀ i u, ρ i = some u → ρ' i = some u
  kept : Kept (own ρ s.mem) w w'
  own : ∀ b, own ρ' s'.mem b → own ρ s.mem b ∨ w.heap.size ≤ b
  hid : ∀ b, Sx.hid ρ' b → Sx.hid ρ b
def OpDone (E : Env) (ρ : Ren) (s : St) (a : Act) (w : World) (run : Result Next) (sv : SV) (s' : St) : Prop :=
  ∃ nx v ρ' w', run = .ok nx w' ∧ (nx = .value v ∨ nx = .skip ∧ v = undef) ∧ Comes1 E ρ s a w sv s' v ρ' w'

theorem OpDone.pure {E : Env} {ρ : Ren} {s : St} {a : Act} {w : World} (hR : R E ρ s a w) {sv : SV} {v : Value} (h : Rel E w (okB w ρ s.mem) ρ sv v) {run : Result Next} (hrun : run = .ok (.value v) w) : OpDone E ρ s a w run sv s :=
  ⟨_, v, ρ, w, hrun, .inl rfl, hR, h, fun _ _ x => x, Kept.refl _ _, fun _ hb => .inl hb, fun _ x => x⟩

theorem kept_of {ρ : Ren} {m : Mem} {w w' : World} (h1 : w'.os = w.os) (h2 : w'.tape = w.tape) (h3 : w'.output = w.output) (h4 : w.heap.size ≤ w'.heap.size) (h5 : ∀ b, b < w.heap.size → ¬ own ρ m b → w'.heap[b]? = w.heap[b]?) : Kept (own ρ m) w w' := ⟨h1, h2, h3, h4, h5⟩

/-- A new box. -/
theorem R.newBox {E : Env} (hE : EnvOk E) {ρ : Ren} {s : St} {a : Act} {w : World} (h : R E ρ s a w) {dst : Option Tmp} {t : TypeId} {d : TyD} (hd : E.Ty t = some d) {cs : List SV} {vs : List Value} (hty : tyBCs d.cells cs = true)
    (hrel : RelL E w (okB w ρ s.mem) ρ cs vs) {id : Nat} {s' : St} (hf : s.fresh dst (.box t cs) = some (id, s')) :
    Comes1 E ρ s a w (.box id 0) s' (.pointer (some ⟨w.heap.size, 0, none⟩)) (upd ρ id (.pointer (some ⟨w.heap.size, 0, none⟩))) (w.alloc (.cells vs.toArray t)) := by
  have hno : ∀ i u, ρ i = some u → upd ρ id (.pointer (some ⟨w.heap.size, 0, none⟩)) i = some u := by
    intro i u hi
    have hnew := (fresh_eq hf).1
    have hsmall := (fresh_eq hf).2.2
    unfold upd; split
    · rename_i e; subst e; have := h.used _ _ hsmall hi; rw [hnew] at this; cases this
    · exact hi
  obtain ⟨h1, h2, h3⟩ := h.made hE (m0 := s.mem) (fun _ _ x => x) hf (.pointer (some ⟨w.heap.size, 0, none⟩)) rfl (fun b hb => by simp [blkOf] at hb; omega) (w' := w.alloc (.cells vs.toArray t)) (by simp)
    (fun b hb _ => Go.RowKit.Below.heap_alloc w _ b hb)
    (fun ok' hok' => .box t d cs w.heap.size vs (by simp [upd]) hd (heap_alloc_new w _) (hE.gn w h.g) hrel.1 hty
      (fun j s u hs hu => (hrel.2 j s u hs hu).frame (fun b hb => Go.RowKit.Below.heap_alloc w _ b hb.1) (fun b hb => hok' b hb (by have := hb.1; simp [blkOf]; omega)) hno))
  exact ⟨h1, .box id 0 _ (by simp [upd]), h3, kept_of rfl rfl rfl (by simp) (fun b hb _ => Go.RowKit.Below.heap_alloc w _ b hb), h2, hid_upd (fresh_eq hf).2.2⟩

theorem tyz_cellish : ∀ (ks : List CK) (cs : List SV), tyBCs ks cs = true → ∀ (j : Nat) s, cs[j]? = some s → cellish s = true
  | [], [], _, j, s, h => by simp at h
  | [], _ :: _, h, _, _, _ => by simp [tyBCs] at h
  | _ :: _, [], h, _, _, _ => by simp [tyBCs] at h
  | k :: ks, c :: cs, h, j, s, hs => by
    simp only [tyBCs, Bool.and_eq_true] at h
    cases j with
    | zero => simp at hs; subst hs; cases k <;> cases c <;> first | rfl | (simp [tyBC, cellish] at h)
    | succ j => exact tyz_cellish ks cs h.2 j s (by simpa using hs)

theorem rel_valOf {E : Env} {w : World} {ok : Nat → Prop} {ρ : Ren} {s : SV} {v : Value} (h : valOf s = some v) : Rel E w ok ρ s v := by
  cases s <;> simp [valOf] at h <;> first | (subst h; first | exact rel_bool _ | exact rel_int _ _ | exact rel_str _ | exact .data _ _ .pnil | exact .snil) | (obtain ⟨h1, rfl⟩ := h; exact .data _ _ (.opq _ h1))
end Sx

/-
  Sx, part 5: cells of one block read and written.
-/
set_option linter.unusedVariables false
set_option linter.unusedSimpArgs false
namespace Sx
open Go

def setBlk (w : World) (g : Nat) (o : Obj) : World := { w with heap := w.heap.setIfInBounds g o }
theorem setBlk_size (w : World) (g : Nat) (o : Obj) : (setBlk w g o).heap.size = w.heap.size := by simp [setBlk]
theorem setBlk_self {w : World} {g : Nat} (o : Obj) (h : g < w.heap.size) : (setBlk w g o).heap[g]? = some o := by simp [setBlk, h]
theorem setBlk_ne {w : World} {g b : Nat} (o : Obj) (h : g ≠ b) : (setBlk w g o).heap[b]? = w.heap[b]? := by simp [setBlk, h]
theorem setBlk_setBlk (w : World) (g : Nat) (o o' : Obj) : setBlk (setBlk w g o) g o' = setBlk w g o' := by
  simp [setBlk, Array.setIfInBounds]
  split <;> simp_all

def putL (l : List Value) (o : Nat) (vs : List Value) : List Value := match vs with
  | [] => l
  | v :: r => putL (l.set o v) (o + 1) r
theorem putL_length (l : List Value) (o : Nat) (vs : List Value) : (putL l o vs).length = l.length := by
  induction vs generalizing l o with
  | nil => rfl
  | cons v r ih => simp [putL, ih]
theorem putL_lt {l : List Value} {o j : Nat} {vs : List Value} (h : j < o) : (putL l o vs)[j]? = l[j]? := by
  induction vs generalizing l o with
  | nil => rfl
  | cons v r ih => rw [putL, ih (by omega), List.getElem?_set_ne (by omega)]
theorem putL_ge {l : List Value} {o j : Nat} {vs : List Value} (h : o + vs.length ≤ j) : (putL l o vs)[j]? = l[j]? := by
  induction vs generalizing l o with
  | nil => rfl
  | cons v r ih => simp at h; rw [putL, ih (by omega), List.getElem?_set_ne (by omega)]
theorem putL_in {l : List Value} {o j : Nat} {vs : List Value} (h : o + vs.length ≤ l.length) (hj : j < vs.length) : (putL l o vs)[o + j]? = vs[j]? := by
  induction vs generalizing l o j with
  | nil => simp at hj
  | cons v r ih =>
    simp at h hj
    cases j with
    | zero =>
      have e : (l.set o v)[o]? = some v := List.getElem?_set_self (by omega)
      rw [putL, putL_lt (by omega)]; exact e
    | succ j => rw [putL, show o + (j + 1) = (o + 1) + j by omega, ih (by simp; omega) (by omega)]; simp

theorem add_at (g o j : Nat) : (⟨g, o, none⟩ : Addr).add j = ⟨g, o + j, none⟩ := by unfold Addr.add; split <;> simp_all
theorem add_block (a : Addr) (j : Nat) : (a.add j).block = a.block := by unfold Addr.add; split <;> rfl
theorem add_add (a : Addr) (i j : Nat) : (a.add i).add j = a.add (i + j) := by
  unfold Addr.add
  by_cases hi : i = 0
  · subst hi; simp
  · by_cases hj : j = 0
    · subst hj; simp [hi]
    · simp [hi, hj, Nat.add_assoc]

theorem cell_blk {w : World} {g : Nat} {vs : List Value} {t : TypeId} {fr : Nat × Nat} (h : w.heap[g]? = some (.cells vs.toArray t fr)) (j : Nat) : w.cell? ⟨g, j, none⟩ = vs[j]? := by
  simp [World.cell?, h]
theorem frozen_blk {w : World} {g : Nat} {vs : List Value} {t : TypeId} {fr : Nat × Nat} (h : w.heap[g]? = some (.cells vs.toArray t fr)) (hf : fr = (0, 0) ∨ vs.length ≤ fr.1) {j : Nat} (hj : j < vs.length) : w.frozen? ⟨g, j, none⟩ = false := by
  rcases hf with rfl | hf
  · simp [World.frozen?, h]
  · obtain ⟨lo, hi⟩ := fr
    simp [World.frozen?, h]
    intro h1; simp at hf; omega

theorem setCell_blk {w : World} {g : Nat} {vs : List Value} {t : TypeId} {fr : Nat × Nat} (h : w.heap[g]? = some (.cells vs.toArray t fr)) (j : Nat) (v : Value) : w.setCell ⟨g, j, none⟩ v = setBlk w g (.cells (vs.set j v).toArray t fr) := by
  have hlt : g < w.heap.size := (Array.getElem?_eq_some_iff.1 h).1
  have hg : w.heap[g] = .cells vs.toArray t fr := by rw [Array.getElem?_eq_getElem hlt] at h; exact Option.some.inj h
  have e : ∀ x y : Array Obj, x = y → ({ w with heap := x } : World) = { w with heap := y } := fun x y q => by rw [q]
  refine e _ _ ?_
  apply Array.ext_getElem?
  intro i
  rw [Array.getElem?_modify, Array.getElem?_setIfInBounds]
  by_cases q : g = i
  · subst q; simp [hg, hlt]
  · simp [q]

theorem run_storeRow (P : Program) (g o : Nat) (t : TypeId) (fr : Nat × Nat) : ∀ (vs : List Value) (i : Nat) (cur : List Value) (w : World), w.heap[g]? = some (.cells cur.toArray t fr) → (fr = (0, 0) ∨ cur.length ≤ fr.1) → o + i + vs.length ≤ cur.length → (∀ v ∈ vs, v.oneCell' = true) →
    (storeCells ⟨g, o, none⟩ vs i).run P w = .ok () (setBlk w g (.cells (putL cur (o + i) vs).toArray t fr))
  | [], i, cur, w, h, hf, hl, h1 => by
    have hlt : g < w.heap.size := (Array.getElem?_eq_some_iff.1 h).1
    have hg : w.heap[g] = .cells cur.toArray t fr := by rw [Array.getElem?_eq_getElem hlt] at h; exact Option.some.inj h
    have : setBlk w g (.cells cur.toArray t fr) = w := by
      have e : ∀ x : Array Obj, x = w.heap → ({ w with heap := x } : World) = w := fun x q => by rw [q]
      refine e _ ?_
      apply Array.ext_getElem?
      intro i
      rw [Array.getElem?_setIfInBounds]
      by_cases q : g = i
      · subst q; simp [hlt, hg]
      · simp [q]
    simp [storeCells, putL, this]
  | v :: vs, i, cur, w, h, hf, hl, h1 => by
    simp at hl
    have hc : w.cell? ((⟨g, o, none⟩ : Addr).add i) = cur[o + i]? := by rw [add_at, cell_blk h]
    have hs : ∃ u, cur[o + i]? = some u := ⟨_, List.getElem?_eq_getElem (by omega)⟩
    obtain ⟨u, hu⟩ := hs
    have hfz : w.frozen? ((⟨g, o, none⟩ : Addr).add i) = false := by rw [add_at]; exact frozen_blk h hf (by omega)
    have hst := run_store P w ((⟨g, o, none⟩ : Addr).add i) v .plain (h1 v (by simp))
    rw [hc, hu, hfz] at hst
    simp only [Bool.false_eq_true, if_false] at hst
    rw [add_at, setCell_blk h] at hst
    have hlt : g < w.heap.size := (Array.getElem?_eq_some_iff.1 h).1
    have ih := run_storeRow P g o t fr vs (i + 1) (cur.set (o + i) v) _ (setBlk_self (w := w) (.cells (cur.set (o + i) v).toArray t fr) hlt) (by simpa using hf) (by simp; omega) (fun v' hv' => h1 v' (by simp [hv']))
    simp only [storeCells, Sem.run_bind, add_at, hst, Result.andThen_ok, ih, setBlk_setBlk, putL, Nat.add_assoc]

theorem run_loadRow (P : Program) (w : World) (a : Addr) (cs : List Value) (h : ∀ (j : Nat), j < cs.length → w.cell? (a.add j) = cs[j]?) : (loadCells a cs.length).run P w = .ok cs.toArray w := by
  exact run_loadCells_list (P := P) w a cs (fun j v hv => by rw [h j (List.getElem?_eq_some_iff.1 hv).1, hv])

/-- What a type's table says of a load. -/
theorem run_loadT {E : Env} {t : TypeId} {d : TyD} (h : TyOk E.P t d) {w : World} {a : Addr} {cs : List Value} (hl : cs.length = d.size) (hc : ∀ (j : Nat), j < cs.length → w.cell? (a.add j) = cs[j]?) :
    (loadVar t a).run E.P w = .ok (if d.d.isAgg then .agg cs.toArray else cs.headD undef) w := by
  obtain ⟨u, hu, hD⟩ := h.und
  obtain ⟨i, z, hi, hs, _⟩ := h.info
  have hag : (isAgg t).run E.P w = .ok d.d.isAgg w := by
    simp only [isAgg, Sem.run_bind, run_underlying hu, Result.andThen_ok]
    cases hd : d.d <;> cases u <;> simp_all [DOk, D.isAgg]
  simp only [loadVar, Sem.run_bind, hag, Result.andThen_ok]
  cases hd : d.d.isAgg with
  | true =>
    have := run_loadRow E.P w a cs hc
    rw [hl] at this
    simp [Go.sizeOf, typeInfo, hi, hs, this]
  | false =>
    have h1 := h.one hd
    have : ∃ v, cs = [v] := by
      rw [h1] at hl
      match cs, hl with
      | [v], _ => exact ⟨v, rfl⟩
    obtain ⟨v, rfl⟩ := this
    have := hc 0 (by simp)
    simp [Addr.add] at this
    simp [this]

theorem run_storeT {E : Env} {t : TypeId} {d : TyD} (h : TyOk E.P t d) {w : World} {g o : Nat} {cur : List Value} {et : TypeId} {fr : Nat × Nat} (hg : w.heap[g]? = some (.cells cur.toArray et fr)) (hf : fr = (0, 0) ∨ cur.length ≤ fr.1) {v : Value}
    (hl : v.cells.toList.length = d.size) (hfit : o + d.size ≤ cur.length) (h1 : ∀ u ∈ v.cells.toList, u.oneCell' = true) :
    (storeVar t ⟨g, o, none⟩ v).run E.P w = .ok () (setBlk w g (.cells (putL cur o v.cells.toList).toArray et fr)) := by
  obtain ⟨i, z, hi, hs, _⟩ := h.info
  have hst := run_storeRow E.P g o et fr v.cells.toList 0 cur w hg hf (by rw [hl]; simpa using hfit) h1
  have hsz : v.cells.size = d.size := by simpa using hl
  simp only [Nat.add_zero] at hst
  simp [storeVar, Go.sizeOf, typeInfo, hi, hs, hsz, hst]
end Sx

/-
  Sx, part 6: operators on numbers, texts, bools, structs and pointers.
-/
set_option linter.unusedVariables false
set_option linter.unusedSimpArgs false
namespace Sx
open Go

theorem beqCell_val {x y : SV} {r : Bool} (h : beqCell x y = some r) : (∃ a, valOf x = some a) ∧ ∃ b, valOf y = some b := by
  cases x <;> cases y <;> simp [beqCell] at h <;> simp [valOf]
theorem beqCells_val : ∀ {xs ys : List SV} {r : Bool}, beqCells xs ys = some r → (∃ a : List Value, xs.map valOf = a.map some) ∧ ∃ b : List Value, ys.map valOf = b.map some
  | [], [], r, h => ⟨⟨[], rfl⟩, ⟨[], rfl⟩⟩
  | [], _ :: _, r, h => by simp [beqCells] at h
  | _ :: _, [], r, h => by simp [beqCells] at h
  | x :: xs, y :: ys, r, h => by
    simp only [beqCells] at h
    cases h1 : beqCell x y with
    | none => simp [h1] at h
    | some a =>
      cases h2 : beqCells xs ys with
      | none => simp [h1, h2] at h
      | some b =>
        obtain ⟨⟨u, hu⟩, ⟨v, hv⟩⟩ := beqCell_val h1
        obtain ⟨⟨us, hus⟩, ⟨vs, hvs⟩⟩ := beqCells_val h2
        exact ⟨⟨u :: us, by simp [hu, hus]⟩, ⟨v :: vs, by simp [hv, hvs]⟩⟩

theorem rel_valOf_eq {E : Env} {w : World} {ok : Nat → Prop} {ρ : Ren} {s : SV} {v u : Value} (h : valOf s = some u) (hr : Rel E w ok ρ s v) : v = u := by
  cases s <;> simp [valOf] at h
  · subst h; exact inv_bool hr
  · subst h; exact inv_int hr
  · subst h; exact inv_str hr
  · subst h; exact inv_pnil hr
  · subst h; exact inv_snil hr
  · obtain ⟨_, rfl⟩ := h; exact (inv_opq hr).1

theorem relL_vals {E : Env} {w : World} {ok : Nat → Prop} {ρ : Ren} {cs : List SV} {vs a : List Value} (hl : cs.length = vs.length) (hr : ∀ (j : Nat) s u, cs[j]? = some s → vs[j]? = some u → Rel E w ok ρ s u) (h : cs.map valOf = a.map some) : vs = a := by
  have hla : cs.length = a.length := by simpa using congrArg List.length h
  apply List.ext_getElem? 
  intro j
  by_cases hj : j < cs.length
  · have h1 : (cs.map valOf)[j]? = (a.map some)[j]? := by rw [h]
    rw [List.getElem?_map, List.getElem?_map, List.getElem?_eq_getElem hj, List.getElem?_eq_getElem (show j < a.length by omega)] at h1
    simp at h1
    have := rel_valOf_eq h1 (hr j cs[j] vs[j] (List.getElem?_eq_getElem hj) (List.getElem?_eq_getElem (show j < vs.length by omega)))
    rw [List.getElem?_eq_getElem (show j < vs.length by omega), List.getElem?_eq_getElem (show j < a.length by omega), this]
  · rw [List.getElem?_eq_none (by omega), List.getElem?_eq_none (by omega)]

/-- The guard of '==' says nothing where no two interface values are held against each other. -/
theorem eqGuard_int {P : Program} {w : World} (op : BinOp) (t : TypeId) (x y : Operand) (a b : Value) (h : (∀ u, a ≠ .agg u) ∧ a ≠ .nilIface) : (eqGuard op t x y a b).run P w = .ok () w := by
  obtain ⟨h1, h2⟩ := h
  cases a with
  | agg u => exact absurd rfl (h1 u)
  | nilIface => exact absurd rfl h2
  | _ => cases op <;> simp [eqGuard]

theorem equal_bool {P : Program} {w : World} {t : TypeId} (hu : P.underlying t = some .bool) (a b : Bool) : (Op.equal t (.bool a) (.bool b)).run P w = .ok (a == b) w := by
  show (Op.equalIn (9999 + 1) t (.bool a) (.bool b)).run P w = _
  generalize 9999 = d
  simp [Op.equalIn, run_underlying hu]
theorem equal_ptr_nil {P : Program} {w : World} {t e : TypeId} (hu : P.underlying t = some (.pointer e)) (a : Option Addr) : (Op.equal t (.pointer a) (.pointer none)).run P w = .ok a.isNone w := by
  show (Op.equalIn (9999 + 1) t (.pointer a) (.pointer none)).run P w = _
  generalize 9999 = d
  cases a <;> simp [Op.equalIn, run_underlying hu]

theorem equal_ptr_same {P : Program} {w : World} {tp te : TypeId} {j : TypeInfo} (a : Addr) (hp : P.underlying tp = some (.pointer te)) (hte : P.info? te = some j) :
    (Op.equal tp (.pointer (some a)) (.pointer (some a))).run P w = .ok true w := by
  show (Op.equalIn (9999 + 1) tp (.pointer (some a)) (.pointer (some a))).run P w = _
  generalize 9999 = d
  simp [Op.equalIn, run_underlying hp, Go.sizeOf, typeInfo, hte, run_sameAddr_same]
section
variable {E : Env} {w : World} {ok : Nat → Prop} {ρ : Ren}
theorem bin_int {op : BinOp} {xt : TypeId} {k k' : IntKind} {a b : Int} {sv : SV} (h : binX E.Ty op xt (.int k a) (.int k' b) = some (true, sv)) (x y : Operand) :
    ∃ v, (do eqGuard op xt x y (.int k a) (.int k' b); binOp op xt (.int k a) (.int k' b) : Sem Value).run E.P w = .ok v w ∧ Rel E w ok ρ sv v := by
  have hg := eqGuard_int (P := E.P) (w := w) op xt x y (.int k a) (.int k' b) (by simp)
  simp only [Sem.run_bind, hg, Result.andThen_ok]
  by_cases hk : k = k'
  · subst hk
    cases op <;> simp [binX] at h
    case shl => obtain ⟨h1, rfl⟩ := h; refine ⟨_, ?_, rel_int _ _⟩; simp [binOp, Op.shift, show ¬ b < 0 by omega, shlI]
    case shr => obtain ⟨h1, rfl⟩ := h; refine ⟨_, ?_, rel_int _ _⟩; simp [binOp, Op.shift, show ¬ b < 0 by omega, shrI]
    case quo => obtain ⟨h1, rfl⟩ := h; refine ⟨_, ?_, rel_int _ _⟩; simp [binOp, Op.intDiv, h1]
    case rem => obtain ⟨h1, rfl⟩ := h; refine ⟨_, ?_, rel_int _ _⟩; simp [binOp, Op.intDiv, h1]
    all_goals (subst h; first | (refine ⟨_, ?_, rel_int _ _⟩; simp [binOp, Op.intArith, Op.intBits, ibits]; done) | (refine ⟨_, ?_, rel_bool _⟩; simp [binOp, Op.intCmp]; done))
  · cases op <;> simp [binX, hk] at h
    case shl => obtain ⟨h1, rfl⟩ := h; refine ⟨_, ?_, rel_int _ _⟩; simp [binOp, Op.shift, show ¬ b < 0 by omega, shlI]
    case shr => obtain ⟨h1, rfl⟩ := h; refine ⟨_, ?_, rel_int _ _⟩; simp [binOp, Op.shift, show ¬ b < 0 by omega, shrI]
theorem bin_str {op : BinOp} {xt : TypeId} {a b : ByteArray} {sv : SV} (h : binX E.Ty op xt (.str a) (.str b) = some (true, sv)) (x y : Operand) :
    ∃ v, (do eqGuard op xt x y (.string a) (.string b); binOp op xt (.string a) (.string b) : Sem Value).run E.P w = .ok v w ∧ Rel E w ok ρ sv v := by
  have hg := eqGuard_int (P := E.P) (w := w) op xt x y (.string a) (.string b) (by simp)
  simp only [Sem.run_bind, hg, Result.andThen_ok]
  cases op <;> simp [binX] at h
  case add =>
    obtain ⟨h1, rfl⟩ := h
    have h1 : a.size + b.size ≤ 9223372036854775807 := by first | exact h1 | exact Nat.le_of_ble_eq_true h1
    refine ⟨_, ?_, rel_str _⟩
    have hm : IntKind.i64.max = 9223372036854775807 := by decide
    simp [binOp, Op.stringOp, hm]
    omega
  all_goals (subst h; refine ⟨_, ?_, rel_bool _⟩; simp [binOp, Op.stringOp])
end

theorem binX_sound {E : Env} (hE : EnvOk E) {w : World} {ok : Nat → Prop} {ρ : Ren} {op : BinOp} {xt : TypeId} {x y : SV} {vx vy : Value} (hx : Rel E w ok ρ x vx) (hy : Rel E w ok ρ y vy) {sv : SV} (h : binX E.Ty op xt x y = some (true, sv)) (ox oy : Operand) :
    ∃ v, (do eqGuard op xt ox oy vx vy; binOp op xt vx vy : Sem Value).run E.P w = .ok v w ∧ Rel E w ok ρ sv v := by
  unfold binX at h
  split at h
  · obtain rfl := inv_int hx; obtain rfl := inv_int hy
    exact bin_int (by unfold binX; exact h) ox oy
  · obtain rfl := inv_str hx; obtain rfl := inv_str hy
    exact bin_str (by unfold binX; exact h) ox oy
  · obtain rfl := inv_bool hx; obtain rfl := inv_bool hy
    rename_i a b
    split at h
    · rename_i d hd
      obtain ⟨u, hu, hD⟩ := (hE.ty _ _ hd).und
      have hub : u = .bool := by cases u <;> simp_all [DOk]
      subst hub
      have hg := eqGuard_int (P := E.P) (w := w) op xt ox oy (.bool a) (.bool b) (by simp)
      simp only [Sem.run_bind, hg, Result.andThen_ok]
      cases op <;> simp at h
      all_goals (subst h; refine ⟨_, ?_, rel_bool _⟩; simp [binOp, equal_bool hu])
    · simp at h
  · obtain ⟨us, rfl, hl, hr⟩ := inv_agg hx; obtain ⟨vs, rfl, hl', hr'⟩ := inv_agg hy
    split at h
    · rename_i d hd
      simp only [cond_eq_ite] at h
      split at h
      · rename_i hty
        simp only [Bool.and_eq_true] at hty
        split at h
        · rename_i r hb
          obtain ⟨⟨A, hA⟩, ⟨B, hB⟩⟩ := beqCells_val hb
          obtain rfl := relL_vals hl hr hA
          obtain rfl := relL_vals hl' hr' hB
          obtain ⟨h1, h2⟩ := (hE.ty _ _ hd).eqv rfl _ _ r us vs w hty.1 hty.2 hb hA hB
          simp only [Sem.run_bind, h2, Result.andThen_ok]
          cases op <;> simp at h
          all_goals (subst h; refine ⟨_, ?_, rel_bool _⟩; simp [binOp, h1])
        · simp at h
      · simp at h
    · simp at h
  · obtain ⟨b, hb, rfl⟩ := inv_box hx; obtain rfl := inv_pnil hy
    split at h
    · rename_i d hd
      obtain ⟨u, hu, hD⟩ := (hE.ty _ _ hd).und
      have hub : ∃ e, u = .pointer e := by cases u <;> simp_all [DOk]
      obtain ⟨e', rfl⟩ := hub
      have hg := fun A => eqGuard_int (P := E.P) (w := w) op xt ox oy (.pointer A) (.pointer none) (by simp)
      simp only [Sem.run_bind, hg, Result.andThen_ok]
      cases op <;> simp at h
      all_goals (subst h; refine ⟨_, ?_, rel_bool _⟩; simp [binOp, equal_ptr_nil hu])
    · simp at h
  · rename_i i p j q
    split at h
    · rename_i e _ _ _ _ _ hd
      cases hT : E.Ty e with
      | none => simp [hT] at h
      | some de =>
        simp only [hT, Bool.and_true] at h
        rw [cond_eq_ite] at h
        split at h
        · rename_i hc
          simp only [Bool.and_eq_true] at hc
          obtain rfl := Nat.eq_of_beq_eq_true hc.1
          obtain rfl := Nat.eq_of_beq_eq_true hc.2
          obtain ⟨b, hb, rfl⟩ := inv_box hx
          obtain ⟨b', hb', rfl⟩ := inv_box hy
          rw [hb] at hb'; cases hb'
          obtain ⟨u, hu, hD⟩ := (hE.ty _ _ hd).und
          obtain rfl : u = .pointer e := by cases u <;> simp_all [DOk]
          obtain ⟨ji, z, hi, _⟩ := (hE.ty _ _ hT).info
          have hg := eqGuard_int (P := E.P) (w := w) op xt ox oy (.pointer (some ⟨b, p, none⟩)) (.pointer (some ⟨b, p, none⟩)) (by simp)
          have heq := equal_ptr_same (P := E.P) (w := w) ⟨b, p, none⟩ hu hi
          simp only [Sem.run_bind, hg, Result.andThen_ok]
          cases op <;> simp at h
          all_goals (subst h; refine ⟨_, ?_, rel_bool _⟩; simp [binOp, heq])
        · simp at h
    · simp at h
  · obtain rfl := inv_pnil hx; obtain rfl := inv_pnil hy
    split at h
    · rename_i d hd
      obtain ⟨u, hu, hD⟩ := (hE.ty _ _ hd).und
      have hub : ∃ e, u = .pointer e := by cases u <;> simp_all [DOk]
      obtain ⟨e', rfl⟩ := hub
      have hg := eqGuard_int (P := E.P) (w := w) op xt ox oy (.pointer none) (.pointer none) (by simp)
      simp only [Sem.run_bind, hg, Result.andThen_ok]
      cases op <;> simp at h
      all_goals (subst h; refine ⟨_, ?_, rel_bool _⟩; simp [binOp, equal_ptr_nil hu])
    · simp at h
  · simp at h
end Sx

/-
  Sx, part 7: loads, stores, addresses.
-/
set_option linter.unusedVariables false
set_option linter.unusedSimpArgs false
set_option linter.unnecessarySimpa false
namespace Sx
open Go

theorem pick_length (off n : Nat) (cs : List SV) : (pick off n cs).length = n := by
  induction n generalizing off with
  | zero => rfl
  | succ n ih => simp [pick, ih]
theorem pick_get (off n : Nat) (cs : List SV) (j : Nat) (hj : j < n) : (pick off n cs)[j]? = some (getAt cs (off + j)) := by
  induction n generalizing off j with
  | zero => omega
  | succ n ih =>
    cases j with
    | zero => simp [pick]
    | succ j => simp [pick]; rw [ih _ _ (by omega)]; congr 2; omega
theorem getAt_some {l : List SV} {n : Nat} {s : SV} (h : l[n]? = some s) : getAt l n = s := by rw [getAt_eq, h]; rfl

theorem rel_ofCells {E : Env} {w : World} {ok : Nat → Prop} {ρ : Ren} {t : TypeId} {d : TyD} (h : TyOk E.P t d) {cs : List SV} {vs : List Value} (hl : cs.length = d.size) (hl' : vs.length = d.size)
    (hr : ∀ (j : Nat) s u, cs[j]? = some s → vs[j]? = some u → Rel E w ok ρ s u) : Rel E w ok ρ (ofCells d.d cs) (if d.d.isAgg then .agg vs.toArray else vs.headD undef) := by
  cases hd : d.d.isAgg with
  | true =>
    have : ofCells d.d cs = .agg cs := by unfold ofCells; cases hq : d.d <;> simp_all [D.isAgg]
    rw [this]
    exact .agg cs vs (by omega) hr
  | false =>
    have h1 := h.one hd
    have : ofCells d.d cs = cs.headD .dead := by unfold ofCells; cases hq : d.d <;> simp_all [D.isAgg]
    rw [this]
    rw [h1] at hl hl'
    match cs, hl, vs, hl' with
    | [c], _, [v], _ => exact hr 0 c v rfl rfl

theorem tyCs_length : ∀ {ks : List CK} {cs : List SV}, tyCs ks cs = true → ks.length = cs.length
  | [], [], _ => rfl
  | [], _ :: _, h => by simp [tyCs] at h
  | _ :: _, [], h => by simp [tyCs] at h
  | k :: ks, c :: cs, h => by simp [tyCs] at h; simp [tyCs_length h.2]
theorem tyCs_get : ∀ {ks : List CK} {cs : List SV}, tyCs ks cs = true → ∀ (j : Nat) k s, ks[j]? = some k → cs[j]? = some s → tyC k s = true
  | [], [], _, j, k, s, h, _ => by simp at h
  | [], _ :: _, h, _, _, _, _, _ => by simp [tyCs] at h
  | _ :: _, [], h, _, _, _, _, _ => by simp [tyCs] at h
  | k :: ks, c :: cs, h, j, k', s, hk, hs => by
    simp [tyCs] at h
    cases j with
    | zero => simp at hk hs; subst hk; subst hs; exact h.1
    | succ j => exact tyCs_get h.2 j k' s (by simpa using hk) (by simpa using hs)
theorem tyBCs_get : ∀ {ks : List CK} {cs : List SV}, tyBCs ks cs = true → ∀ (j : Nat) k s, ks[j]? = some k → cs[j]? = some s → tyBC k s = true
  | [], [], _, j, k, s, h, _ => by simp at h
  | [], _ :: _, h, _, _, _, _, _ => by simp [tyBCs] at h
  | _ :: _, [], h, _, _, _, _, _ => by simp [tyBCs] at h
  | k :: ks, c :: cs, h, j, k', s, hk, hs => by
    simp [tyBCs] at h
    cases j with
    | zero => simp at hk hs; subst hk; subst hs; exact h.1
    | succ j => exact tyBCs_get h.2 j k' s (by simpa using hk) (by simpa using hs)
theorem tyBCs_length : ∀ {ks : List CK} {cs : List SV}, tyBCs ks cs = true → ks.length = cs.length
  | [], [], _ => rfl
  | [], _ :: _, h => by simp [tyBCs] at h
  | _ :: _, [], h => by simp [tyBCs] at h
  | k :: ks, c :: cs, h => by simp [tyBCs] at h; simp [tyBCs_length h.2]
theorem tyBCs_of : ∀ {ks : List CK} {cs : List SV}, ks.length = cs.length → (∀ (j : Nat) k s, ks[j]? = some k → cs[j]? = some s → tyBC k s = true) → tyBCs ks cs = true
  | [], [], _, _ => rfl
  | [], _ :: _, h, _ => by simp at h
  | _ :: _, [], h, _ => by simp at h
  | k :: ks, c :: cs, h, hh => by
    simp only [tyBCs, Bool.and_eq_true]
    exact ⟨hh 0 k c rfl rfl, tyBCs_of (by simpa using h) (fun j k' s hk hs => hh (j + 1) k' s (by simpa using hk) (by simpa using hs))⟩
theorem expC_ty {k : CK} {s : SV} (h : tyC k s = true) : expC k s = s := by
  cases k <;> cases s <;> simp [tyC] at h <;> simp [expC, asBool, asInt, asStr, asLst, h]
def scalK : CK → Bool | .bool | .int _ | .str => true | _ => false
theorem expC_tyB {k : CK} {s : SV} (hk : scalK k = true) (h : tyBC k s = true) : expC k s = s := by
  cases k <;> cases s <;> simp [tyBC, scalK] at h hk <;> simp [expC, asBool, asInt, asStr, h]
theorem scal_get : ∀ {ks : List CK}, loadX.scal ks = true → ∀ (j : Nat) k, ks[j]? = some k → scalK k = true
  | [], _, j, k, h => by simp at h
  | c :: ks, h, j, k, hk => by
    cases j with
    | zero => simp at hk; subst hk; cases c <;> first | rfl | (simp [loadX.scal] at h)
    | succ j => exact scal_get (ks := ks) (by cases c <;> simpa [loadX.scal] using h) j k (by simpa using hk)
theorem expFrom_eq : ∀ (ks : List CK) (j : Nat) (l cs : List SV), tyCs ks cs = true → (∀ (i : Nat), i < cs.length → l[j + i]? = cs[i]?) → expFrom j ks l = cs
  | [], j, l, [], _, _ => rfl
  | [], _, _, _ :: _, h, _ => by simp [tyCs] at h
  | _ :: _, _, _, [], h, _ => by simp [tyCs] at h
  | k :: ks, j, l, c :: cs, h, hl => by
    simp [tyCs] at h
    have h0 := hl 0 (by simp)
    simp at h0
    have : l.getD j .dead = c := by simp [List.getD, h0]
    rw [expFrom, this, expC_ty h.1, expFrom_eq ks (j + 1) l cs h.2 (fun i hi => by
      have := hl (i + 1) (by simp; omega)
      simp at this
      rw [show j + 1 + i = j + (i + 1) by omega]; exact this)]
theorem expCells_ok {d : TyD} {x : SV} (h : okE d x) : expCells d x = cellsOf x := expFrom_eq _ 0 _ _ h.2 (fun i _ => by simp)

theorem subK_get : ∀ {a b : List CK}, subK a b = true → ∀ (j : Nat) k, a[j]? = some k → b[j]? = some k
  | [], _, _, j, k, h => by simp at h
  | _ :: _, [], h, _, _, _ => by simp [subK] at h
  | x :: a, y :: b, h, j, k, hk => by
    simp [subK] at h
    cases j with
    | zero => simp at hk; subst hk; simp [h.1]
    | succ j => simpa using subK_get h.2 j k (by simpa using hk)
theorem repOk_get {sz off : Nat} {ks : List CK} : ∀ {n : Nat} {l : List CK}, repOk sz off ks n l = true → ∀ (i : Nat), i < n → ∀ (j : Nat) k, ks[j]? = some k → l[i * sz + off + j]? = some k
  | 0, _, _, i, hi, _, _, _ => by omega
  | n + 1, l, h, i, hi, j, k, hk => by
    simp [repOk] at h
    cases i with
    | zero => have := subK_get h.1 j k hk; rw [List.getElem?_drop] at this; simpa using this
    | succ i =>
      have := repOk_get h.2 i (by omega) j k hk
      rw [List.getElem?_drop] at this
      rw [← this]; congr 1
      rw [Nat.succ_mul]; omega
theorem pickX_length (off : Nat) (ks : List CK) (cs : List SV) : (pickX off ks cs).length = ks.length := by
  induction ks generalizing off with
  | nil => rfl
  | cons k ks ih => simp [pickX, ih]
theorem pickX_get (off : Nat) (ks : List CK) (cs : List SV) (j : Nat) (k : CK) (hk : ks[j]? = some k) : (pickX off ks cs)[j]? = some (expC k (cs.getD (off + j) .dead)) := by
  induction ks generalizing off j with
  | nil => simp at hk
  | cons c ks ih =>
    cases j with
    | zero => simp at hk; subst hk; simp [pickX]
    | succ j => simp [pickX]; rw [ih (off + 1) j (by simpa using hk), show off + 1 + j = off + (j + 1) by omega]; simp

theorem getElem?_dt (vs : List Value) (o n j : Nat) (h : j < n) : ((vs.drop o).take n)[j]? = vs[o + j]? := by
  rw [List.getElem?_take, if_pos h, List.getElem?_drop]
theorem length_dt {vs : List Value} {o n : Nat} (h : o + n ≤ vs.length) : ((vs.drop o).take n).length = n := by simp; omega

theorem run_loadAt {P : Program} {w : World} (t : TypeId) (a : Addr) : (Instr.loadAt t (.pointer (some a))).run P w = (loadVar t a).run P w := by
  simp [Instr.loadAt, Instr.sureAddr]

/-- A load out of a block whose cells are told. -/
theorem load_blk {E : Env} (hE : EnvOk E) {w : World} {ok : Nat → Prop} {ρ : Ren} {t : TypeId} {d : TyD} (hd : E.Ty t = some d) {b o : Nat} {vs : List Value} {et : TypeId} {fr : Nat × Nat} (hb : w.heap[b]? = some (.cells vs.toArray et fr)) (hfit : o + d.size ≤ vs.length) {cs : List SV} (hl : cs.length = d.size)
    (hr : ∀ (j : Nat) s u, cs[j]? = some s → vs[o + j]? = some u → Rel E w ok ρ s u) : ∃ v, (Instr.loadAt t (.pointer (some ⟨b, o, none⟩))).run E.P w = .ok v w ∧ Rel E w ok ρ (ofCells d.d cs) v := by
  have hT := hE.ty _ _ hd
  have hl' := length_dt hfit
  refine ⟨_, ?_, rel_ofCells hT hl hl' (fun j s u hs hu => hr j s u hs (by
    have hj : j < d.size := by have := (List.getElem?_eq_some_iff.1 hs).1; omega
    rwa [getElem?_dt _ _ _ _ hj] at hu))⟩
  rw [run_loadAt]
  exact run_loadT hT hl' (fun j hj => by rw [add_at, cell_blk hb, getElem?_dt _ _ _ _ (by omega)])

theorem objBox {E : Env} {w : World} {ok : Nat → Prop} {ρ : Ren} {id : Nat} {t : TypeId} {cs : List SV} (h : ObjOk E w ok ρ id (.box t cs)) : ∃ d b, ∃ vs : List Value, ρ id = some (.pointer (some ⟨b, 0, none⟩)) ∧ E.Ty t = some d ∧ w.heap[b]? = some (.cells vs.toArray t (0, 0)) ∧ E.ng ≤ b ∧ cs.length = vs.length ∧ tyBCs d.cells cs = true ∧
    (∀ (j : Nat) s v, cs[j]? = some s → vs[j]? = some v → Rel E w ok ρ s v) := by
  cases h with
  | box _ d _ b vs h1 h2 h3 h4 h5 h6 h7 => exact ⟨d, b, vs, h1, h2, h3, h4, h5, h6, h7⟩
theorem objRow {E : Env} {w : World} {ok : Nat → Prop} {ρ : Ren} {id : Nat} {e : TypeId} {xs : List SV} (h : ObjOk E w ok ρ id (.row e xs)) : ∃ d v cells, ρ id = some v ∧ E.Ty e = some d ∧ RowAt w E.ng e d.size v xs.length cells ∧ (∀ u, u ∈ cells → u.oneCell' = true) ∧ RowCells E w ok d xs cells := by
  cases h with
  | row _ d _ v cells h1 h2 h3 h4 h5 => exact ⟨d, v, cells, h1, h2, h3, h4, h5⟩

/-- A row that has a head: its block. -/
theorem RowAt.blk {w : World} {base : Nat} {e : TypeId} {size n m c : Nat} {g : Nat} {xs : List Value} (h : RowAt w base e size (.slice (some ⟨g, 0, none⟩) m c) n xs) : m = n ∧ base ≤ g ∧ ∃ cur : List Value, ∃ fr, w.heap[g]? = some (.cells cur.toArray e fr) ∧ (fr = (0, 0) ∨ cur.length ≤ fr.1) ∧ n ≤ c ∧ c ≤ maxLen ∧ cur.length = c * size ∧ cur.take (n * size) = xs := by
  rcases h.2 with ⟨h1, _⟩ | ⟨g', cap, cur, fr, h1, h2, h3, h4, h5, h6, h7, h8⟩
  · cases h1
  · cases h1
    exact ⟨rfl, h2, cur.toList, fr, by simpa using h3, by simpa using h4, h5, h6, by simpa using h7, h8⟩

theorem mem_lt {n i sz m : Nat} (h : i < n) (hm : m ≤ sz) (hm0 : 0 < m) : i * sz + m ≤ n * sz := by
  have : (i + 1) * sz ≤ n * sz := Nat.mul_le_mul_right sz h
  rw [Nat.add_mul] at this; omega

theorem loadX_sound {E : Env} (hE : EnvOk E) {ρ : Ren} {s : St} {a : Act} {w : World} (hR : R E ρ s a w) {t : TypeId} {x : SV} {vx : Value} (hx : Rel E w (okB w ρ s.mem) ρ x vx) {sv : SV} (h : loadX E.Ty t x s = some sv) :
    ∃ v, (Instr.loadAt t vx).run E.P w = .ok v w ∧ Rel E w (okB w ρ s.mem) ρ sv v := by
  unfold loadX at h
  cases hd : E.Ty t with
  | none => simp [hd] at h
  | some d =>
    simp only [hd] at h
    have hT := hE.ty _ _ hd
    cases x with
    | box id off =>
      simp only at h
      cases hg : s.mem.get id with
      | none => simp [hg] at h
      | some o =>
        cases o with
        | row _ _ => simp [hg] at h
        | box bt cs =>
          simp only [hg, cond_eq_ite] at h
          split at h
          · rename_i hfit
            have hfit := Nat.le_of_ble_eq_true hfit
            cases h
            obtain ⟨b', hb', rfl⟩ := inv_box hx
            obtain ⟨d', b, vs, hρ, _, hb, hng, hl, hty, hr⟩ := objBox (hR.mem.obj id _ hg)
            rw [hρ] at hb'; cases hb'
            refine load_blk hE hd hb (by omega) (pick_length _ _ _) (fun j s' u hs hu => ?_)
            have hj : j < d.size := by have := (List.getElem?_eq_some_iff.1 hs).1; rw [pick_length] at this; exact this
            rw [pick_get _ _ _ _ hj] at hs
            cases hs
            exact hr (off + j) _ u (by rw [getAt_eq, List.getElem?_eq_getElem (by omega)]; rfl) hu
          · simp at h
    | elt id sz i off =>
      simp only at h
      cases hg : s.mem.get id with
      | none => simp [hg] at h
      | some o =>
        cases o with
        | box _ _ => simp [hg] at h
        | row e xs =>
          simp only [hg] at h
          cases hde : E.Ty e with
          | none => simp [hde] at h
          | some de =>
            simp only [hde, cond_eq_ite] at h
            split at h
            · rename_i hq
              simp only [Bool.and_eq_true] at hq
              have hsz := Nat.eq_of_beq_eq_true hq.1
              have hfit := Nat.le_of_ble_eq_true hq.2
              subst hsz
              cases h
              obtain ⟨b, n, c, hρ', hi, rfl⟩ := inv_elt hx
              obtain ⟨de', v, cells, hρ, hde', hrow, hone, hE', hcells⟩ := objRow (hR.mem.obj id _ hg)
              rw [hρ'] at hρ; cases hρ
              rw [hde] at hde'; cases hde'
              obtain ⟨rfl, hng, cur, fr, hb, _, hnc, _, hcl, htk⟩ := hrow.blk
              have hpos := hT.pos
              have hin := mem_lt (sz := de.size) hi (show off + d.size ≤ de.size from hfit) (by omega)
              have hcur : xs.length * de.size ≤ cur.length := by rw [hcl]; exact Nat.mul_le_mul_right _ hnc
              refine load_blk hE hd hb (by omega) (pick_length _ _ _) (fun j s' u hs hu => ?_)
              have hj : j < d.size := by have := (List.getElem?_eq_some_iff.1 hs).1; rw [pick_length] at this; exact this
              rw [pick_get _ _ _ _ hj] at hs
              cases hs
              have hxi : xs[i]? = some xs[i] := List.getElem?_eq_getElem hi
              have hok := hE' _ (List.getElem_mem hi)
              have hgd : xs.getD i .dead = xs[i] := by simp [List.getD, hxi]
              rw [hgd, expCells_ok hok]
              have hlen := tyCs_length hok.2
              have hdc := (hE.ty _ _ hde).cells
              have hs2 : (cellsOf xs[i])[off + j]? = some (getAt (cellsOf xs[i]) (off + j)) := by rw [getAt_eq, List.getElem?_eq_getElem (by omega)]; rfl
              obtain ⟨u', hu', hr'⟩ := hcells i (off + j) _ _ hxi hs2
              rw [← htk, List.getElem?_take] at hu'
              split at hu'
              · rw [← Nat.add_assoc] at hu'
                rw [hu'] at hu; cases hu
                exact .data _ _ hr'
              · cases hu'
            · simp at h
    | ael id base sz n i off =>
      simp only at h
      cases hg : s.mem.get id with
      | none => simp [hg] at h
      | some o =>
        cases o with
        | row _ _ => simp [hg] at h
        | box bt cs =>
          simp only [hg] at h
          cases hdt : E.Ty bt with
          | none => simp [hdt] at h
          | some dt =>
            simp only [hdt, cond_eq_ite] at h
            split at h
            · rename_i hq
              simp only [Bool.and_eq_true] at hq
              obtain ⟨⟨⟨hq1, hq2⟩, hq3⟩, hq4⟩ := hq
              have hfit := Nat.le_of_ble_eq_true hq1
              have hfit2 := Nat.le_of_ble_eq_true hq2
              cases h
              obtain ⟨b', hb', hi, rfl⟩ := inv_ael hx
              obtain ⟨d', b, vs, hρ, hdt', hb, hng, hl, hty, hr⟩ := objBox (hR.mem.obj id _ hg)
              rw [hρ] at hb'; cases hb'
              rw [hdt] at hdt'; cases hdt'
              have hpos := hT.pos
              have hin := mem_lt (sz := sz) hi (show off + d.size ≤ sz from hfit2) (by omega)
              refine load_blk hE hd hb (by omega) (by rw [pickX_length, hT.cells]) (fun j s' u hs hu => ?_)
              have hj : j < d.cells.length := by have := (List.getElem?_eq_some_iff.1 hs).1; rw [pickX_length] at this; exact this
              have hjs : j < d.size := by rw [← hT.cells]; exact hj
              have hk : d.cells[j]? = some d.cells[j] := List.getElem?_eq_getElem hj
              rw [pickX_get _ _ _ _ _ hk] at hs
              have hkk := repOk_get hq4 i hi j _ hk
              rw [List.getElem?_drop] at hkk
              have hidx : base + i * sz + off + j < cs.length := by omega
              have hc : cs[base + i * sz + off + j]? = some cs[base + i * sz + off + j] := List.getElem?_eq_getElem hidx
              have hB := tyBCs_get hty (base + i * sz + off + j) _ _ (by rw [← hkk]; congr 1; omega) hc
              have hgd : cs.getD (base + i * sz + off + j) .dead = cs[base + i * sz + off + j] := by simp [List.getD, hc]
              rw [hgd, expC_tyB (scal_get hq3 j _ hk) hB] at hs
              cases hs
              exact hr _ _ u hc hu
            · simp at h
    | adr cs =>
      simp only [cond_eq_ite] at h
      split at h
      · rename_i hfit
        have hfit := Nat.le_of_ble_eq_true hfit
        cases h
        obtain ⟨ad, u, rfl, hok, hcell, hr⟩ := inv_adr hx
        have hl' : ((List.range d.size).map u).length = d.size := by simp
        refine ⟨_, ?_, rel_ofCells hT (pick_length 0 d.size cs) hl' (fun j s' u' hs hu => ?_)⟩
        · rw [run_loadAt]
          exact run_loadT hT hl' (fun j hj => by
            have hj' : j < d.size := by simpa using hj
            rw [hcell j (by omega), List.getElem?_map, List.getElem?_range hj']; rfl)
        · have hj : j < d.size := by have := (List.getElem?_eq_some_iff.1 hs).1; rw [pick_length] at this; exact this
          rw [pick_get _ _ _ _ hj] at hs
          rw [List.getElem?_map, List.getElem?_range hj] at hu
          simp at hs hu
          subst hu; subst hs
          exact .data _ _ (hr j _ (by rw [getAt_eq, List.getElem?_eq_getElem (by omega)]; rfl))
      · simp at h
    | _ => simp at h
end Sx

/-
  Sx, part 8: stores; what is put where nobody writes any more.
-/
set_option linter.unusedVariables false
set_option linter.unusedSimpArgs false
set_option linter.unnecessarySimpa false
namespace Sx
open Go

theorem run_storeAt {P : Program} {w : World} (t : TypeId) (a : Addr) (v : Value) : (Instr.storeAt t (.pointer (some a)) v).run P w = (storeVar t a v).run P w := by
  simp [Instr.storeAt, Instr.sureAddr]

theorem putC_length (cs : List SV) (o : Nat) (vs : List SV) : (putC cs o vs).length = cs.length := by
  induction vs generalizing cs o with
  | nil => rfl
  | cons v r ih => simp [putC, ih, setAt_length]
theorem putC_lt {l : List SV} {o j : Nat} {vs : List SV} (h : j < o) : (putC l o vs)[j]? = l[j]? := by
  induction vs generalizing l o with
  | nil => rfl
  | cons v r ih => rw [putC, ih (by omega), setAt_eq, List.getElem?_set_ne (by omega)]
theorem putC_ge {l : List SV} {o j : Nat} {vs : List SV} (h : o + vs.length ≤ j) : (putC l o vs)[j]? = l[j]? := by
  induction vs generalizing l o with
  | nil => rfl
  | cons v r ih => simp at h; rw [putC, ih (by omega), setAt_eq, List.getElem?_set_ne (by omega)]
theorem putC_in {l : List SV} {o j : Nat} {vs : List SV} (h : o + vs.length ≤ l.length) (hj : j < vs.length) : (putC l o vs)[o + j]? = vs[j]? := by
  induction vs generalizing l o j with
  | nil => simp at hj
  | cons v r ih =>
    simp at h hj
    cases j with
    | zero =>
      have e : (l.set o v)[o]? = some v := List.getElem?_set_self (by omega)
      rw [putC, putC_lt (by omega), setAt_eq]; exact e
    | succ j => rw [putC, show o + (j + 1) = (o + 1) + j by omega, ih (by simp [setAt_length]; omega) (by omega)]; simp
theorem putX_eq (l : List SV) (o : Nat) (vs : List SV) : putX l o vs = putC l o vs := by
  induction vs generalizing l o with
  | nil => rfl
  | cons v r ih => simp [putX, putC, ih, setAt_eq]

theorem cells_one {E : Env} {w : World} {ok : Nat → Prop} {ρ : Ren} (h1 : ∀ id v, ρ id = some v → v.oneCell' = true) {ks : List CK} {cs : List SV} {vs : List Value} (hty : tyBCs ks cs = true) (hr : RelL E w ok ρ cs vs) : ∀ u ∈ vs, u.oneCell' = true := by
  intro u hu
  obtain ⟨j, hj⟩ := List.getElem?_of_mem hu
  have hlt : j < cs.length := by rw [hr.1]; exact (List.getElem?_eq_some_iff.1 hj).1
  have hc : cs[j]? = some cs[j] := List.getElem?_eq_getElem hlt
  exact (hr.2 j _ u hc hj).one h1 (tyz_cellish _ _ hty j _ hc)

/-- A value's cells, told by their kinds. -/
theorem rel_cells {E : Env} {w : World} {ok : Nat → Prop} {ρ : Ren} (h1 : ∀ id v, ρ id = some v → v.oneCell' = true) {x : SV} {vx : Value} (hx : Rel E w ok ρ x vx) {ks : List CK} (hty : tyBCs ks (cellsOf x) = true) : RelL E w ok ρ (cellsOf x) vx.cells.toList := by
  refine hx.cells h1 ?_
  cases x <;> first | exact .inl rfl | exact .inr ⟨_, rfl⟩ | skip
  · have := tyz_cellish _ _ hty 0 (.tup _) rfl
    simp [cellish] at this
  · have := tyz_cellish _ _ hty 0 .dead rfl
    simp [cellish] at this

/-- A store into a box, at whatever place of it. -/
theorem store_box {E : Env} (hE : EnvOk E) {ρ : Ren} {s : St} {a : Act} {w : World} (hR : R E ρ s a w) {t : TypeId} {d : TyD} (hd : E.Ty t = some d) {id : Nat} {bt : TypeId} {cs : List SV} (hg : s.mem.get id = some (.box bt cs)) {dt : TyD} (hdt : E.Ty bt = some dt) {b o : Nat}
    (hρ : ρ id = some (.pointer (some ⟨b, 0, none⟩))) {y : SV} {vy : Value} (hy : Rel E w (okB w ρ s.mem) ρ y vy) (hl : (cellsOf y).length = d.size) (hty : tyBCs d.cells (cellsOf y) = true) (hfit : o + d.size ≤ cs.length)
    (hk : ∀ (j : Nat) k, d.cells[j]? = some k → dt.cells[o + j]? = some k) :
    OpDone E ρ s a w ((do (Instr.storeAt t (.pointer (some ⟨b, o, none⟩)) vy); pure Next.skip : Sem Next).run E.P w) .dead { s with mem := s.mem.put id (.box bt (putC cs o (cellsOf y))) } := by
  have hT := hE.ty _ _ hd
  obtain ⟨d', b', vs, hρ', hdt', hb, hng, hlv, htyb, hr⟩ := objBox (hR.mem.obj id _ hg)
  rw [hρ] at hρ'; cases hρ'
  rw [hdt] at hdt'; cases hdt'
  have hrl := rel_cells hR.one hy hty
  have h1 := cells_one hR.one hty hrl
  have hst := run_storeT hT hb (.inl rfl) (v := vy) (o := o) (by rw [← hrl.1, hl]) (by omega) h1
  have hlt : b < w.heap.size := (Array.getElem?_eq_some_iff.1 hb).1
  have hw := hR.wrote hE (m0 := s.mem) (fun _ _ x => x) hg (o' := .box bt (putC cs o (cellsOf y))) (w' := setBlk w b (.cells (putL vs o vy.cells.toList).toArray bt (0, 0))) (by rw [setBlk_size]; exact Nat.le_refl _)
    (fun b' hb' hne => setBlk_ne _ (fun e => hne _ hρ (by simp [blkOf, e])))
    (fun ok' hok' => by
      have hfr : ∀ b', okB w ρ s.mem b' → (setBlk w b (.cells (putL vs o vy.cells.toList).toArray bt (0, 0))).heap[b']? = w.heap[b']? := fun b' hb' => setBlk_ne _ (fun e => by
        subst e; exact hb'.2 (.inl ⟨id, _, _, hg, hρ, rfl⟩))
      refine .box bt dt _ b (putL vs o vy.cells.toList) hρ hdt (setBlk_self _ hlt) hng (by rw [putC_length, putL_length]; exact hlv) ?_ ?_
      · have hlen := tyBCs_length htyb
        refine tyBCs_of (by rw [putC_length]; exact hlen) (fun j k s' hk' hs' => ?_)
        by_cases q1 : j < o
        · rw [putC_lt q1] at hs'; exact tyBCs_get htyb j k s' hk' hs'
        · by_cases q2 : o + (cellsOf y).length ≤ j
          · rw [putC_ge q2] at hs'; exact tyBCs_get htyb j k s' hk' hs'
          · obtain ⟨i, rfl⟩ : ∃ i, j = o + i := ⟨j - o, by omega⟩
            rw [putC_in (by omega) (by omega)] at hs'
            have hi : i < d.cells.length := by rw [hT.cells]; omega
            have hki := hk i _ (List.getElem?_eq_getElem hi)
            rw [hki] at hk'; cases hk'
            exact tyBCs_get hty i _ s' (List.getElem?_eq_getElem hi) hs'
      · intro j s' u hs' hu
        by_cases q1 : j < o
        · rw [putC_lt q1] at hs'; rw [putL_lt q1] at hu
          exact (hr j s' u hs' hu).frame hfr hok' (fun _ _ x => x)
        · by_cases q2 : o + (cellsOf y).length ≤ j
          · rw [putC_ge q2] at hs'; rw [putL_ge (by rw [← hrl.1]; exact q2)] at hu
            exact (hr j s' u hs' hu).frame hfr hok' (fun _ _ x => x)
          · obtain ⟨i, rfl⟩ : ∃ i, j = o + i := ⟨j - o, by omega⟩
            rw [putC_in (by omega) (by omega)] at hs'
            rw [putL_in (by rw [← hrl.1]; omega) (by rw [← hrl.1]; omega)] at hu
            exact (hrl.2 i s' u hs' hu).frame hfr hok' (fun _ _ x => x))
  refine ⟨.skip, undef, ρ, _, by rw [Sem.run_bind, run_storeAt, hst]; rfl, .inr ⟨rfl, rfl⟩, hw.1, .dead _, fun _ _ x => x, kept_of rfl rfl rfl (by rw [setBlk_size]; exact Nat.le_refl _) (fun b' hb' hn => setBlk_ne _ (fun e => hn ⟨id, _, _, hg, hρ, by simp [blkOf, e]⟩)), fun b' hb' => .inl (hw.2 b' hb'), fun _ x => x⟩

/-- What is put where nobody writes any more: the cells are told by lists, and what was one's own is so no more. -/
theorem toData_sound {E : Env} (hE : EnvOk E) {ρ : Ren} {w : World} : ∀ (ks : List CK) (xs : List SV) (m : Mem) (ys : List SV) (m' : Mem), toData E.Ty ks xs m = some (ys, m') → MemOk E w ρ m → (∀ b, own ρ m b → b < w.heap.size) → ∀ vs : List Value, RelL E w (okB w ρ m) ρ xs vs →
    (∀ id o, m'.get id = some o → m.get id = some o) ∧ tyCs ks ys = true ∧ ys.length = vs.length ∧ ∀ (j : Nat) s u, ys[j]? = some s → vs[j]? = some u → Rep E w (okB w ρ m') s u
  | [], [], m, ys, m', h, hm, hlt, vs, hr => by
    simp [toData] at h; obtain ⟨rfl, rfl⟩ := h
    have := hr.1
    exact ⟨fun _ _ x => x, rfl, this, fun j s u hs _ => by simp at hs⟩
  | [], _ :: _, m, ys, m', h, _, _, _, _ => by simp [toData] at h
  | _ :: _, [], m, ys, m', h, _, _, _, _ => by simp [toData] at h
  | c :: ks, x :: xs, m, ys, m', h, hm, hlt, vs, hr => by
    obtain ⟨v, vs, rfl⟩ : ∃ v r, vs = v :: r := by
      have := hr.1
      cases vs with
      | nil => simp at this
      | cons v r => exact ⟨v, r, rfl⟩
    have hx := hr.2 0 x v rfl rfl
    -- the rest, behind a first cell that is y, in memory m1
    have rest : ∀ (y : SV) (m1 : Mem), (match toData E.Ty ks xs m1 with | some (ys, m'') => some (y :: ys, m'') | none => none) = some (ys, m') → (∀ id o, m1.get id = some o → m.get id = some o) → tyC c y = true → Rep E w (okB w ρ m1) y v →
        (∀ id o, m'.get id = some o → m.get id = some o) ∧ tyCs (c :: ks) ys = true ∧ ys.length = (v :: vs).length ∧ ∀ (j : Nat) s u, ys[j]? = some s → (v :: vs)[j]? = some u → Rep E w (okB w ρ m') s u := by
      intro y m1 hq hsub hty hrep
      cases ht : toData E.Ty ks xs m1 with
      | none => simp [ht] at hq
      | some p =>
        obtain ⟨ys2, m2⟩ := p
        simp [ht] at hq
        obtain ⟨rfl, rfl⟩ := hq
        have hm1 : MemOk E w ρ m1 := memLess hm hsub
        have ih := toData_sound hE ks xs m1 ys2 m2 ht hm1 (fun b hb => hlt b (own_sub hsub hb)) vs ⟨by have := hr.1; simpa using this, fun j s u hs hu =>
          (hr.2 (j + 1) s u (by simpa using hs) (by simpa using hu)).frame (fun _ _ => rfl) (fun b hb => ⟨hb.1, fun q => hb.2 (q.imp (own_sub hsub) (fun x => x))⟩) (fun _ _ x => x)⟩
        obtain ⟨i1, i2, i3, i4⟩ := ih
        refine ⟨fun id o hg => hsub id o (i1 id o hg), by simp [tyCs, hty, i2], by simp [i3], fun j s u hs hu => ?_⟩
        cases j with
        | zero =>
          simp at hs hu; subst hs; subst hu
          exact hrep.frame (fun _ _ => rfl) (fun b hb => ⟨hb.1, fun q => hb.2 (q.imp (own_sub i1) (fun x => x))⟩)
        | succ j => exact i4 j s u (by simpa using hs) (by simpa using hu)
    have plain : (bif tyC c x then (match toData E.Ty ks xs m with | some (ys, m'') => some (x :: ys, m'') | none => none) else none) = some (ys, m') → Rep E w (okB w ρ m) x v →
        (∀ id o, m'.get id = some o → m.get id = some o) ∧ tyCs (c :: ks) ys = true ∧ ys.length = (v :: vs).length ∧ ∀ (j : Nat) s u, ys[j]? = some s → (v :: vs)[j]? = some u → Rep E w (okB w ρ m') s u := by
      intro hq hrep
      simp only [cond_eq_ite] at hq
      split at hq
      · rename_i hty
        exact rest x m hq (fun _ _ x => x) hty hrep
      · simp at hq
    unfold toData at h
    split at h
    · -- a nil slice
      rename_i e
      obtain rfl := inv_snil hx
      exact rest (.lst e []) m h (fun _ _ x => x) (by simp [tyC, Nat.beq_refl]) (.lst0 e none 0)
    · -- a row
      rename_i e id
      cases hg : m.get id with
      | none => simp [hg] at h
      | some o =>
        cases o with
        | box _ _ => simp [hg] at h
        | row e' l =>
          simp only [hg, cond_eq_ite] at h
          split at h
          · rename_i hee
            have hee := Nat.eq_of_beq_eq_true hee
            subst hee
            have hsub : ∀ i o, (m.del id).get i = some o → m.get i = some o := fun i o hi => (Mem.get_del hi).2
            refine rest (.lst e l) (m.del id) h hsub (by simp [tyC, Nat.beq_refl]) ?_
            have hv := inv_row hx
            obtain ⟨d, v', cells, hρ, hd, hrow, hone, hEl, hcells⟩ := objRow (hm.obj id _ hg)
            rw [hv] at hρ; cases hρ
            by_cases hl0 : l = []
            · subst hl0
              rcases hrow.2 with ⟨rfl, _⟩ | ⟨g, cap, cur, fr, rfl, _⟩
              · exact .lst0 e none 0
              · exact .lst0 e _ _
            · have hpos : 0 < l.length := List.length_pos_iff.2 hl0
              rcases hrow.2 with ⟨_, h0⟩ | ⟨g, cap, cur, fr, rfl, hng, hb, hf, hnc, hcm, hcl, htk⟩
              · omega
              · have hown : own ρ m g := ⟨id, _, _, hg, hv, rfl⟩
                have hokg : okB w ρ (m.del id) g := ⟨hlt g hown, fun q => by
                  rcases q with ⟨i, oi, vi, hgi, hvi, hbi⟩ | q
                  · obtain ⟨hne, hgi'⟩ := Mem.get_del hgi
                    exact hm.sep id i _ oi _ vi g hne hg hgi' hv hvi rfl hbi
                  · exact hm.hsep g hown q⟩
                have hsz : 0 < d.size := (hE.ty _ _ hd).pos
                refine .lst e d l ⟨g, 0, none⟩ cap (fun i j => cur.toList.getD (i * d.size + j) undef) hd hnc (by omega) hokg hEl (fun i j hi hj => ?_) (fun i j x s hxi hs => ?_)
                · rw [add_at, Nat.zero_add, cell_blk (vs := cur.toList) (by simpa using hb)]
                  have h1 := mem_lt (sz := d.size) (m := j + 1) hi (by omega) (by omega)
                  have h2 : l.length * d.size ≤ cap * d.size := Nat.mul_le_mul_right _ hnc
                  have h3 : i * d.size + j < cur.toList.length := by simp; omega
                  rw [List.getD, List.getElem?_eq_getElem h3]; rfl
                · obtain ⟨u, hu, hrp⟩ := hcells i j x s hxi hs
                  rw [← htk, List.getElem?_take] at hu
                  split at hu
                  · simp only [List.getD, hu, Option.getD_some]
                    exact hrp.frame (fun _ _ => rfl) (fun b hb => ⟨hb.1, fun q => hb.2 (q.imp (own_sub hsub) (fun x => x))⟩)
                  · cases hu
          · simp at h
    · -- whatever else: its constructor stands in front
      have hty : tyC c x = true := by
        simp only [cond_eq_ite] at h
        split at h
        · assumption
        · simp at h
      refine plain h ?_
      cases x with
      | bool b => obtain rfl := inv_bool hx; exact .bool b
      | int k n => obtain rfl := inv_int hx; exact .int k n
      | str u => obtain rfl := inv_str hx; exact .str u
      | lst e l => exact inv_lst hx
      | _ => cases c <;> simp [tyC] at hty
end Sx

/-
  Sx, part 9: stores, whole; the addresses of fields and elements; elements and fields of values.
-/
set_option linter.unusedVariables false
set_option linter.unusedSimpArgs false
set_option linter.unnecessarySimpa false
namespace Sx
open Go

theorem RowCells.set {E : Env} {w : World} {ok : Nat → Prop} {t : TypeId} {d : TyD} {xs : List SV} {cells : List Value} (h : RowCells E w ok d xs cells) (hl : cells.length = xs.length * d.size) {i : Nat} (hi : i < xs.length) {o : Nat} {vs : List SV} {us : List Value} (hfit : o + vs.length ≤ d.size) (hlu : vs.length = us.length)
    (hT : TyOk E.P t d) (hk : ∀ (j : Nat) k s, d.cells[o + j]? = some k → vs[j]? = some s → tyC k s = true) (hr : ∀ (j : Nat) s u, vs[j]? = some s → us[j]? = some u → Rep E w ok s u) :
    RowCells E w ok d (xs.set i (ofCells d.d (putC (expCells d (xs.getD i .dead)) o vs))) (putL cells (i * d.size + o) us) := by
  have hxi : xs[i]? = some xs[i] := List.getElem?_eq_getElem hi
  have hok := h.1 _ (List.getElem_mem hi)
  have hgd : xs.getD i .dead = xs[i] := by simp [List.getD, hxi]
  have hlen := tyCs_length hok.2
  have hcl : (cellsOf xs[i]).length = d.size := by rw [← hlen, hT.cells]
  rw [hgd, expCells_ok hok]
  have hpl : (putC (cellsOf xs[i]) o vs).length = d.size := by rw [putC_length, hcl]
  -- the new element's cells
  have hce : cellsOf (ofCells d.d (putC (cellsOf xs[i]) o vs)) = putC (cellsOf xs[i]) o vs := by
    cases hag : d.d.isAgg with
    | true =>
      have : ofCells d.d (putC (cellsOf xs[i]) o vs) = .agg (putC (cellsOf xs[i]) o vs) := by unfold ofCells; cases hq : d.d <;> simp_all [D.isAgg]
      rw [this]; rfl
    | false =>
      have h1 := hT.one hag
      have : ofCells d.d (putC (cellsOf xs[i]) o vs) = (putC (cellsOf xs[i]) o vs).headD .dead := by unfold ofCells; cases hq : d.d <;> simp_all [D.isAgg]
      rw [this]
      rw [h1] at hpl
      match hq : putC (cellsOf xs[i]) o vs, hpl with
      | [c], _ =>
        have hc : cellish c = true := by
          have hcell : ∀ k s, tyC k s = true → cellish s = true := by intro k s hks; cases k <;> cases s <;> first | rfl | (simp [tyC] at hks)
          have hk0 : ∃ k, d.cells[0]? = some k := ⟨_, List.getElem?_eq_getElem (by have := hT.cells; omega)⟩
          obtain ⟨k0, hk0⟩ := hk0
          have h0 : (putC (cellsOf xs[i]) o vs)[0]? = some c := by rw [hq]; rfl
          by_cases q1 : 0 < o
          · rw [putC_lt q1] at h0; exact hcell _ _ (tyCs_get hok.2 0 k0 c hk0 h0)
          · have ho : o = 0 := by omega
            subst ho
            by_cases q2 : vs.length = 0
            · have : vs = [] := List.eq_nil_of_length_eq_zero q2
              subst this
              simp [putC] at h0
              exact hcell _ _ (tyCs_get hok.2 0 k0 c hk0 h0)
            · have := putC_in (l := cellsOf xs[i]) (o := 0) (j := 0) (vs := vs) (by omega) (by omega)
              rw [this] at h0
              exact hcell _ _ (hk 0 k0 c (by simpa using hk0) h0)
        exact cellsOf_cellish hc
  have hty : tyCs d.cells (putC (cellsOf xs[i]) o vs) = true := by
    have key : ∀ (ks : List CK) (cs : List SV), ks.length = cs.length → (∀ (j : Nat) k s, ks[j]? = some k → cs[j]? = some s → tyC k s = true) → tyCs ks cs = true := by
      intro ks
      induction ks with
      | nil => intro cs hl _; cases cs <;> simp_all [tyCs]
      | cons k ks ih =>
        intro cs hl hh
        cases cs with
        | nil => simp at hl
        | cons c cs =>
          simp only [tyCs, Bool.and_eq_true]
          exact ⟨hh 0 k c rfl rfl, ih cs (by simpa using hl) (fun j k' s hk hs => hh (j + 1) k' s (by simpa using hk) (by simpa using hs))⟩
    refine key _ _ (by rw [putC_length]; exact hlen) (fun j k s hkj hs => ?_)
    by_cases q1 : j < o
    · rw [putC_lt q1] at hs; exact tyCs_get hok.2 j k s hkj hs
    · by_cases q2 : o + vs.length ≤ j
      · rw [putC_ge q2] at hs; exact tyCs_get hok.2 j k s hkj hs
      · obtain ⟨i', rfl⟩ : ∃ i, j = o + i := ⟨j - o, by omega⟩
        rw [putC_in (by omega) (by omega)] at hs
        exact hk i' k s hkj hs
  have hform : ofCells d.d (putC (cellsOf xs[i]) o vs) = ofCells d.d (cellsOf (ofCells d.d (putC (cellsOf xs[i]) o vs))) := by rw [hce]
  have hokE : okE d (ofCells d.d (putC (cellsOf xs[i]) o vs)) := ⟨hform, by rw [hce]; exact hty⟩
  refine ⟨fun x hx => ?_, fun i' j x s hx hs => ?_⟩
  · rcases List.mem_or_eq_of_mem_set hx with q | q
    · exact h.1 x q
    · subst q; exact hokE
  · by_cases e : i = i'
    · subst e
      rw [List.getElem?_set_self hi] at hx
      cases hx
      rw [hce] at hs
      have hj : j < d.size := by have := (List.getElem?_eq_some_iff.1 hs).1; omega
      by_cases q1 : j < o
      · rw [putC_lt q1] at hs
        obtain ⟨u, hu, hrp⟩ := h.2 i j _ s hxi hs
        exact ⟨u, by rw [putL_lt (by omega)]; exact hu, hrp⟩
      · by_cases q2 : o + vs.length ≤ j
        · rw [putC_ge q2] at hs
          obtain ⟨u, hu, hrp⟩ := h.2 i j _ s hxi hs
          exact ⟨u, by rw [putL_ge (by omega)]; exact hu, hrp⟩
        · obtain ⟨j', rfl⟩ : ∃ i, j = o + i := ⟨j - o, by omega⟩
          rw [putC_in (by omega) (by omega)] at hs
          have hu : us[j']? = some us[j'] := List.getElem?_eq_getElem (by omega)
          have hin := mem_lt (sz := d.size) (m := o + vs.length) hi hfit (by omega)
          refine ⟨us[j'], ?_, hr j' s _ hs hu⟩
          rw [show i * d.size + (o + j') = i * d.size + o + j' by omega, putL_in (by rw [hl]; omega) (by omega)]
          exact hu
    · rw [List.getElem?_set_ne e] at hx
      obtain ⟨u, hu, hrp⟩ := h.2 i' j x s hx hs
      have hokx := h.1 x (List.mem_of_getElem? hx)
      have hj : j < d.size := by
        have := (List.getElem?_eq_some_iff.1 hs).1
        rw [← tyCs_length hokx.2, hT.cells] at this; exact this
      refine ⟨u, ?_, hrp⟩
      rcases Nat.lt_or_ge i' i with q | q
      · have : i' * d.size + j < i * d.size := by
          have := mem_lt (sz := d.size) (m := j + 1) q (by omega) (by omega); omega
        rw [putL_lt (by omega)]; exact hu
      · have hlt : i < i' := by omega
        have := mem_lt (sz := d.size) (m := o + vs.length) hlt hfit
        by_cases hz : vs.length = 0
        · have : us = [] := List.eq_nil_of_length_eq_zero (by omega)
          subst this; exact hu
        · rw [putL_ge (by have := this (by omega); omega)]; exact hu

theorem storeX_sound {E : Env} (hE : EnvOk E) {ρ : Ren} {s : St} {a : Act} {w : World} (hR : R E ρ s a w) {t : TypeId} {x y : SV} {vx vy : Value} (hx : Rel E w (okB w ρ s.mem) ρ x vx) (hy : Rel E w (okB w ρ s.mem) ρ y vy) {s' : St} (h : storeX E.Ty t x y s = some s') :
    OpDone E ρ s a w ((do (Instr.storeAt t vx vy); pure Next.skip : Sem Next).run E.P w) .dead s' := by
  unfold storeX at h
  cases hd : E.Ty t with
  | none => simp [hd] at h
  | some d =>
    simp only [hd, cond_eq_ite] at h
    have hT := hE.ty _ _ hd
    split at h
    · simp at h
    · rename_i hlen
      have hlen : (cellsOf y).length = d.size := by
        simp at hlen; exact hlen
      cases x with
      | box id off =>
        simp only at h
        cases hg : s.mem.get id with
        | none => simp [hg] at h
        | some o =>
          cases o with
          | row _ _ => simp [hg] at h
          | box bt cs =>
            simp only [hg] at h
            cases hdt : E.Ty bt with
            | none => simp [hdt] at h
            | some dt =>
              simp only [hdt] at h
              split at h
              · rename_i hq
                simp only [Bool.and_eq_true] at hq
                obtain ⟨⟨hq1, hq2⟩, hq3⟩ := hq
                have hfit := Nat.le_of_ble_eq_true hq1
                cases h
                obtain ⟨b', hb', rfl⟩ := inv_box hx
                exact store_box hE hR hd hg hdt hb' hy hlen hq2 hfit (fun j k hk => by
                  have := subK_get hq3 j k hk
                  rwa [List.getElem?_drop] at this)
              · simp at h
      | ael id base sz n i off =>
        simp only at h
        cases hg : s.mem.get id with
        | none => simp [hg] at h
        | some o =>
          cases o with
          | row _ _ => simp [hg] at h
          | box bt cs =>
            simp only [hg] at h
            cases hdt : E.Ty bt with
            | none => simp [hdt] at h
            | some dt =>
              simp only [hdt] at h
              split at h
              · rename_i hq
                simp only [Bool.and_eq_true] at hq
                obtain ⟨⟨⟨⟨hq1, hq2⟩, hq3⟩, hq4⟩, hq5⟩ := hq
                have hfit := Nat.le_of_ble_eq_true hq1
                have hfit2 := Nat.le_of_ble_eq_true hq2
                cases h
                obtain ⟨b', hb', hi, rfl⟩ := inv_ael hx
                have hpos := hT.pos
                have hin := mem_lt (sz := sz) hi (show off + d.size ≤ sz from hfit2) (by omega)
                rw [putX_eq]
                exact store_box hE hR hd hg hdt hb' hy hlen hq3 (by omega) (fun j k hk => by
                  have := repOk_get hq5 i hi j k hk
                  rw [List.getElem?_drop] at this
                  rw [← this]; congr 1; omega)
              · simp at h
      | elt id sz i off =>
        simp only at h
        cases hg : s.mem.get id with
        | none => simp [hg] at h
        | some o =>
          cases o with
          | box _ _ => simp [hg] at h
          | row e xs =>
            simp only [hg] at h
            cases hde : E.Ty e with
            | none => simp [hde] at h
            | some de =>
              simp only [hde] at h
              split at h
              · rename_i hq
                simp only [Bool.and_eq_true] at hq
                obtain ⟨⟨hq1, hq2⟩, hq3⟩ := hq
                have hsz := Nat.eq_of_beq_eq_true hq1
                have hfit := Nat.le_of_ble_eq_true hq2
                subst hsz
                cases htd : toData E.Ty d.cells (cellsOf y) s.mem with
                | none => simp [htd] at h
                | some p =>
                  obtain ⟨vs, m⟩ := p
                  simp only [htd] at h
                  cases hgm : m.get id with
                  | none => simp [hgm] at h
                  | some o2 =>
                    cases o2 with
                    | box _ _ => simp [hgm] at h
                    | row e' xs' =>
                      simp only [hgm] at h
                      cases h
                      have hcy : cellish y = true ∨ ∃ cs, y = .agg cs := by
                        cases y <;> first | exact .inl rfl | exact .inr ⟨_, rfl⟩ | skip
                        · simp [cellsOf] at htd; cases hdc : d.cells <;> simp_all [toData, tyC]; rename_i c l; cases c <;> simp_all [toData, tyC]
                        · simp [cellsOf] at htd; cases hdc : d.cells <;> simp_all [toData, tyC]; rename_i c l; cases c <;> simp_all [toData, tyC]
                      have hrl := hy.cells hR.one hcy
                      obtain ⟨hsub, htyv, hlv, hrep⟩ := toData_sound hE d.cells (cellsOf y) s.mem vs m htd hR.mem (fun b hb => (own_lt hR.mem hb).1) _ hrl
                      have hsame : e' = e ∧ xs' = xs := by
                        have := hsub _ _ hgm; rw [hg] at this; cases this; exact ⟨rfl, rfl⟩
                      obtain ⟨rfl, rfl⟩ := hsame
                      obtain ⟨b, n, c, hρ', hi, rfl⟩ := inv_elt hx
                      have hless := hR.less hE hsub
                      obtain ⟨de', v, cells, hρ, hde', hrow, hone, hRC⟩ := objRow (hless.mem.obj id _ hgm)
                      rw [hρ'] at hρ; cases hρ
                      rw [hde] at hde'; cases hde'
                      obtain ⟨rfl, hng, cur, fr, hb, hf, hnc, hcm, hcl, htk⟩ := hrow.blk
                      have hpos := hT.pos
                      have hTe := hE.ty _ _ hde
                      have hvl : vs.length = d.size := by rw [hlv, ← hrl.1, hlen]
                      have hin := mem_lt (sz := de.size) hi (show off + d.size ≤ de.size from hfit) (by omega)
                      have hcur : xs'.length * de.size ≤ cur.length := by rw [hcl]; exact Nat.mul_le_mul_right _ hnc
                      have h1 : ∀ u ∈ vy.cells.toList, u.oneCell' = true := by
                        intro u hu
                        obtain ⟨j, hj⟩ := List.getElem?_of_mem hu
                        have hjl : j < vs.length := by rw [hlv]; exact (List.getElem?_eq_some_iff.1 hj).1
                        have := hrep j _ u (List.getElem?_eq_getElem hjl) hj
                        have hty' := tyCs_get htyv j _ _ (List.getElem?_eq_getElem (by rw [tyCs_length htyv]; exact hjl)) (List.getElem?_eq_getElem hjl)
                        have hcell : ∀ k s, tyC k s = true → cellish s = true := by intro k s hks; cases k <;> cases s <;> first | rfl | (simp [tyC] at hks)
                        exact (Rel.data (ρ := ρ) _ _ this).one hR.one (hcell _ _ hty')
                      have hst := run_storeT hT hb hf (v := vy) (o := i * de.size + off) (by rw [← hrl.1, hlen]) (by omega) h1
                      have hlt : b < w.heap.size := (Array.getElem?_eq_some_iff.1 hb).1
                      have hcellsl := hrow.1
                      have hw := hR.wrote hE (m0 := m) hsub hgm (o' := .row e' (xs'.set i (ofCells de.d (putC (expCells de (xs'.getD i .dead)) off vs)))) (w' := setBlk w b (.cells (putL cur (i * de.size + off) vy.cells.toList).toArray e' fr)) (by rw [setBlk_size]; exact Nat.le_refl _)
                        (fun b' hb' hne => setBlk_ne _ (fun e => hne _ hρ' (by simp [blkOf, e])))
                        (fun ok' hok' => by
                          have hfr : ∀ b', okB w ρ m b' → (setBlk w b (.cells (putL cur (i * de.size + off) vy.cells.toList).toArray e' fr)).heap[b']? = w.heap[b']? := fun b' hb' => setBlk_ne _ (fun e => by
                            subst e; exact hb'.2 (.inl ⟨id, _, _, hgm, hρ', rfl⟩))
                          have hset := hRC.set (t := e') hcellsl hi (o := off) (vs := vs) (us := vy.cells.toList) (by omega) hlv hTe (fun j k s hk hs => by
                            have hj : j < d.cells.length := by rw [hT.cells]; have := (List.getElem?_eq_some_iff.1 hs).1; omega
                            have := subK_get hq3 j _ (List.getElem?_eq_getElem hj)
                            rw [List.getElem?_drop, hk] at this
                            cases this
                            exact tyCs_get htyv j _ s (List.getElem?_eq_getElem hj) hs) hrep
                          refine .row e' de _ (.slice (some ⟨b, 0, none⟩) xs'.length c) (putL cells (i * de.size + off) vy.cells.toList) hρ' hde ?_ ?_ (hset.frame hfr hok')
                          · refine ⟨by rw [putL_length, List.length_set, hcellsl], .inr ⟨b, c, (putL cur (i * de.size + off) vy.cells.toList).toArray, fr, by rw [List.length_set], hng, setBlk_self _ hlt, by simpa [putL_length] using hf, by rw [List.length_set]; exact hnc, hcm, by simp [putL_length, hcl], ?_⟩⟩
                            rw [List.length_set]
                            apply List.ext_getElem?
                            intro j
                            rw [List.getElem?_take]
                            split
                            · rename_i hj
                              show (putL cur (i * de.size + off) vy.cells.toList)[j]? = _
                              have hcj : cells[j]? = cur[j]? := by rw [← htk, List.getElem?_take, if_pos hj]
                              by_cases q1 : j < i * de.size + off
                              · rw [putL_lt q1, putL_lt q1, hcj]
                              · by_cases q2 : i * de.size + off + vy.cells.toList.length ≤ j
                                · rw [putL_ge q2, putL_ge q2, hcj]
                                · obtain ⟨j', rfl⟩ : ∃ i', j = i * de.size + off + i' := ⟨j - (i * de.size + off), by omega⟩
                                  rw [putL_in (by rw [← hlv, hvl]; omega) (by omega), putL_in (by rw [hcellsl, ← hlv, hvl]; omega) (by omega)]
                            · rename_i hj
                              symm
                              apply List.getElem?_eq_none
                              rw [putL_length, hcellsl]; omega
                          · intro u hu
                            obtain ⟨j, hj⟩ := List.getElem?_of_mem hu
                            by_cases q1 : j < i * de.size + off
                            · rw [putL_lt q1] at hj; exact hone u (List.mem_of_getElem? hj)
                            · by_cases q2 : i * de.size + off + vy.cells.toList.length ≤ j
                              · rw [putL_ge q2] at hj; exact hone u (List.mem_of_getElem? hj)
                              · obtain ⟨j', rfl⟩ : ∃ i', j = i * de.size + off + i' := ⟨j - (i * de.size + off), by omega⟩
                                rw [putL_in (by rw [hcellsl, ← hlv, hvl]; omega) (by omega)] at hj
                                exact h1 u (List.mem_of_getElem? hj))
                      refine ⟨.skip, undef, ρ, _, by rw [Sem.run_bind, run_storeAt, hst]; rfl, .inr ⟨rfl, rfl⟩, hw.1, .dead _, fun _ _ x => x, kept_of rfl rfl rfl (by rw [setBlk_size]; exact Nat.le_refl _) (fun b' hb' hn => setBlk_ne _ (fun e => hn ⟨id, _, _, hg, hρ', by simp [blkOf, e]⟩)), fun b' hb' => .inl (hw.2 b' hb'), fun _ x => x⟩
              · simp at h
      | _ => simp at h
end Sx

/-
  Sx, part 10: addresses of fields and elements; elements and fields of values; lengths.
-/
set_option linter.unusedVariables false
set_option linter.unusedSimpArgs false
set_option linter.unnecessarySimpa false
namespace Sx
open Go

theorem fields_at {gs : Array Field} {fs : List (Nat × TypeId)} (h : gs.toList.map (fun f => (f.offset, f.type)) = fs) {f : Nat} {o : Nat} {ft : TypeId} (hf : fs[f]? = some (o, ft)) : ∃ g, gs[f]? = some g ∧ g.offset = o ∧ g.type = ft := by
  subst h
  rw [List.getElem?_map] at hf
  cases hg : gs.toList[f]? with
  | none => simp [hg] at hf
  | some g =>
    simp [hg] at hf
    exact ⟨g, by simpa using hg, hf.1, hf.2⟩

theorem fieldX_sound {E : Env} (hE : EnvOk E) {ρ : Ren} {s : St} {a : Act} {w : World} (hR : R E ρ s a w) {xt : TypeId} {x : SV} {f : Nat} {vx : Value} (hx : Rel E w (okB w ρ s.mem) ρ x vx) {sv : SV} (h : fieldX E.Ty xt x f = some sv) :
    ∃ v, (Instr.fieldAt xt vx f).run E.P w = .ok v w ∧ Rel E w (okB w ρ s.mem) ρ sv v := by
  unfold fieldX at h
  split at h
  · rename_i fs _ _ _ _ _ hd
    have hT := hE.ty _ _ hd
    obtain ⟨u, hu, hD⟩ := hT.und
    obtain ⟨gs, rfl, hgs⟩ : ∃ gs, u = .struct gs ∧ gs.toList.map (fun f => (f.offset, f.type)) = fs := by
      cases u <;> simp [DOk] at hD
      exact ⟨_, rfl, hD⟩
    split at h
    · rename_i o ft hf
      obtain ⟨g, hg, rfl, rfl⟩ := fields_at hgs hf
      cases hdf : E.Ty g.type with
      | none => simp [hdf] at h
      | some df =>
        simp only [hdf, cond_eq_ite] at h
        split at h
        · simp at h
        · rename_i hsz
          have hsz : df.size ≠ 0 := by intro e; exact hsz (by rw [e]; rfl)
          have hTf := hE.ty _ _ hdf
          obtain ⟨i, z, hi, his, _⟩ := hTf.info
          have run : ∀ ad : Addr, (Instr.fieldAt xt (.pointer (some ad)) f).run E.P w = .ok (.pointer (some (ad.add g.offset))) w := fun ad => by
            simp [Instr.fieldAt, run_underlying hu, hg, Instr.sureAddr, fieldPlace, Go.sizeOf, typeInfo, hi, his, hsz]
          cases x with
          | box id off =>
            simp at h; subst h
            obtain ⟨b, hb, rfl⟩ := inv_box hx
            exact ⟨_, run _, by rw [add_at]; exact .box id _ b hb⟩
          | elt id sz i off =>
            simp at h; subst h
            obtain ⟨b, n, c, hb, hi, rfl⟩ := inv_elt hx
            exact ⟨_, run _, by rw [add_at, Nat.add_assoc]; exact .elt id sz _ _ b n c hb hi⟩
          | ael id base sz n i off =>
            simp at h; subst h
            obtain ⟨b, hb, hi, rfl⟩ := inv_ael hx
            exact ⟨_, run _, by rw [add_at, Nat.add_assoc]; exact .ael id base sz n _ _ b hb hi⟩
          | adr cs =>
            simp at h; subst h
            obtain ⟨ad, u, rfl, hok, hcell, hr⟩ := inv_adr hx
            refine ⟨_, run _, .adr _ _ (fun j => u (g.offset + j)) (by rw [add_block]; exact hok) (fun j hj => ?_) (fun j s hs => ?_)⟩
            · rw [add_add]; exact hcell _ (by simp at hj; omega)
            · rw [List.getElem?_drop] at hs; exact hr _ s hs
          | _ => simp at h
    · simp at h
  · simp at h

theorem natOf_eq {x : SV} {n : Int} (h : natOf x = some n) : ∃ k, x = .int k n := by
  cases x <;> simp [natOf] at h
  exact ⟨_, by rw [h]⟩

theorem rep_lst {E : Env} {w : World} {ok : Nat → Prop} {e : TypeId} {xs : List SV} {v : Value} (h : Rep E w ok (.lst e xs) v) : ∃ A c, v = .slice A xs.length c ∧ (xs ≠ [] → ∃ a d, ∃ u : Nat → Nat → Value, A = some a ∧ E.Ty e = some d ∧ xs.length ≤ c ∧ xs.length ≤ maxLen ∧ ok a.block ∧ (∀ x, x ∈ xs → okE d x) ∧
    (∀ i j, i < xs.length → j < d.size → w.cell? (a.add (i * d.size + j)) = some (u i j)) ∧ ∀ (i j : Nat) x s, xs[i]? = some x → (cellsOf x)[j]? = some s → Rep E w ok s (u i j)) := by
  cases h with
  | lst0 _ A c => exact ⟨A, c, rfl, fun h => absurd rfl h⟩
  | lst _ d xs a c u hd hc hm hok hE hcell hr => exact ⟨some a, c, rfl, fun _ => ⟨a, d, u, rfl, hd, hc, hm, hok, hE, hcell, hr⟩⟩

/-- The address of an element of a list that nobody writes. -/
theorem rel_elem {E : Env} (hE : EnvOk E) {w : World} {ok : Nat → Prop} {ρ : Ren} {e : TypeId} {d : TyD} (hd : E.Ty e = some d) {xs : List SV} {v : Value} (h : Rep E w ok (.lst e xs) v) {n : Nat} (hn : n < xs.length) :
    ∃ a c, v = .slice (some a) xs.length c ∧ Rel E w ok ρ (.adr (expCells d (xs.getD n .dead))) (.pointer (some (a.add (n * d.size)))) := by
  obtain ⟨A, c, rfl, hne⟩ := rep_lst h
  obtain ⟨a, d', u, rfl, hd', hc, hm, hok, hEl, hcell, hr⟩ := hne (by intro e; subst e; simp at hn)
  rw [hd] at hd'; cases hd'
  refine ⟨a, c, rfl, ?_⟩
  have hxi : xs[n]? = some xs[n] := List.getElem?_eq_getElem hn
  have hgd : xs.getD n .dead = xs[n] := by simp [List.getD, hxi]
  have hokx := hEl _ (List.getElem_mem hn)
  have hlen := tyCs_length hokx.2
  have hcl := (hE.ty _ _ hd).cells
  rw [hgd, expCells_ok hokx]
  exact .adr _ _ (u n) (by rw [add_block]; exact hok) (fun j hj => by rw [add_add]; exact hcell n j hn (by omega)) (fun j s hs => hr n j _ s hxi hs)

theorem run_indexAt_slice {E : Env} {w : World} {t e : TypeId} {d : TyD} (hu : E.P.underlying t = some (.slice e)) (hT : TyOk E.P e d) (k : IntKind) (n : Int) (a : Addr) (len c : Nat) (h0 : 0 ≤ n) (h1 : n < len) :
    (Instr.indexAt t (.slice (some a) len c) (.int k n)).run E.P w = .ok (.pointer (some (a.add (n.toNat * d.size)))) w := by
  obtain ⟨i, z, hi, his, _⟩ := hT.info
  simp [Instr.indexAt, asIntOf, run_underlying hu, h0, h1, Go.sizeOf, typeInfo, hi, his]
theorem run_indexAt_array {E : Env} {w : World} {t e : TypeId} {d : TyD} {len : Nat} (hu : E.P.underlying t = some (.array len e)) (hT : TyOk E.P e d) (k : IntKind) (n : Int) (a : Addr) (h0 : 0 ≤ n) (h1 : n < len) :
    (Instr.indexAt t (.pointer (some a)) (.int k n)).run E.P w = .ok (.pointer (some (a.add (n.toNat * d.size)))) w := by
  obtain ⟨i, z, hi, his, _⟩ := hT.info
  simp [Instr.indexAt, asIntOf, run_underlying hu, h0, h1, Go.sizeOf, typeInfo, hi, his, Instr.sureAddr]

theorem indexAddrX_sound {E : Env} (hE : EnvOk E) {ρ : Ren} {s : St} {a : Act} {w : World} (hR : R E ρ s a w) {t : TypeId} {x i : SV} {vx vi : Value} (hx : Rel E w (okB w ρ s.mem) ρ x vx) (hi : Rel E w (okB w ρ s.mem) ρ i vi) {sv : SV} (h : indexAddrX E.Ty t x i s = some (true, sv)) :
    ∃ v, (Instr.indexAt t vx vi).run E.P w = .ok v w ∧ Rel E w (okB w ρ s.mem) ρ sv v := by
  unfold indexAddrX at h
  split at h
  · rename_i n len e _ _ _ _ _ hn hd
    obtain ⟨k, rfl⟩ := natOf_eq hn
    obtain rfl := inv_int hi
    obtain ⟨u, hu, hD⟩ := (hE.ty _ _ hd).und
    obtain rfl : u = .array len e := by cases u <;> simp_all [DOk]
    cases hde : E.Ty e with
    | none => simp [hde] at h
    | some de =>
      simp only [hde] at h
      cases x with
      | box id off =>
        simp only [Option.some.injEq, Prod.mk.injEq, Bool.and_eq_true, decide_eq_true_eq] at h
        obtain ⟨⟨h0, h1⟩, rfl⟩ := h
        obtain ⟨b, hb, rfl⟩ := inv_box hx
        refine ⟨_, run_indexAt_array hu (hE.ty _ _ hde) k n _ h0 h1, ?_⟩
        rw [add_at]
        exact .ael id off de.size len n.toNat 0 b hb (by omega)
      | _ => simp at h
  · rename_i n e _ _ _ _ _ hn hd
    obtain ⟨k, rfl⟩ := natOf_eq hn
    obtain rfl := inv_int hi
    obtain ⟨u, hu, hD⟩ := (hE.ty _ _ hd).und
    obtain rfl : u = .slice e := by cases u <;> simp_all [DOk]
    cases hde : E.Ty e with
    | none => simp [hde] at h
    | some de =>
      simp only [hde] at h
      cases x with
      | lst e' xs =>
        simp only [cond_eq_ite] at h
        split at h
        · rename_i hee
          have hee := Nat.eq_of_beq_eq_true hee; subst hee
          simp only [Option.some.injEq, Prod.mk.injEq, Bool.and_eq_true, decide_eq_true_eq] at h
          obtain ⟨⟨h0, h1⟩, rfl⟩ := h
          obtain ⟨ad, c, rfl, hrel⟩ := rel_elem hE (ρ := ρ) hde (inv_lst hx) (n := n.toNat) (by omega)
          exact ⟨_, run_indexAt_slice hu (hE.ty _ _ hde) k n _ _ _ h0 h1, hrel⟩
        · simp at h
      | row id =>
        simp only at h
        cases hg : s.mem.get id with
        | none => simp [hg] at h
        | some o =>
          cases o with
          | box _ _ => simp [hg] at h
          | row e' xs =>
            simp only [hg, cond_eq_ite] at h
            split at h
            · rename_i hee
              have hee := Nat.eq_of_beq_eq_true hee; subst hee
              simp only [Option.some.injEq, Prod.mk.injEq, Bool.and_eq_true, decide_eq_true_eq] at h
              obtain ⟨⟨h0, h1⟩, rfl⟩ := h
              have hv := inv_row hx
              obtain ⟨d, v', cells, hρ, hd2, hrow, hone, hRC⟩ := objRow (hR.mem.obj id _ hg)
              rw [hv] at hρ; cases hρ
              rcases hrow.2 with ⟨rfl, hl0⟩ | ⟨g, cap, cur, fr, rfl, _⟩
              · simp at hl0; subst hl0; simp at h1; omega
              · refine ⟨_, run_indexAt_slice hu (hE.ty _ _ hde) k n _ _ _ h0 h1, ?_⟩
                rw [add_at]
                have := Rel.elt (E := E) (w := w) (ok := okB w ρ s.mem) (ρ := ρ) id de.size n.toNat 0 g _ _ hv (by omega)
                simpa using this
            · simp at h
      | _ => simp at h
  · simp at h

theorem indexX_sound {E : Env} (hE : EnvOk E) {ρ : Ren} {w : World} {ok : Nat → Prop} {t : TypeId} {x i : SV} {vx vi : Value} (hx : Rel E w ok ρ x vx) (hi : Rel E w ok ρ i vi) {sv : SV} (h : indexX E.Ty t x i = some (true, sv)) (h1 : ∀ id v, ρ id = some v → v.oneCell' = true) :
    ∃ v, (Instr.index t vx vi).run E.P w = .ok v w ∧ Rel E w ok ρ sv v := by
  unfold indexX at h
  split at h
  · rename_i n u hn
    obtain ⟨k, rfl⟩ := natOf_eq hn
    obtain rfl := inv_int hi
    obtain rfl := inv_str hx
    split at h
    · rename_i hd
      obtain ⟨u', hu, hD⟩ := (hE.ty _ _ hd).und
      obtain rfl : u' = .string := by cases u' <;> simp_all [DOk]
      simp only [Option.some.injEq, Prod.mk.injEq, Bool.and_eq_true, decide_eq_true_eq] at h
      obtain ⟨⟨h0, h2⟩, rfl⟩ := h
      refine ⟨.int .u8 (bAt u n), ?_, rel_int _ _⟩
      have hlt : n.toNat < u.size := by omega
      have hlt' : n.toNat < u.data.toList.length := by rw [Array.length_toList]; exact hlt
      have hb : bAt u n = ((u[n.toNat]'hlt).toNat : Int) := by
        unfold bAt
        rw [List.getD, List.getElem?_eq_getElem hlt']
        rfl
      simp [Instr.index, asIntOf, run_underlying hu, h0, hlt, hb]
    · simp at h
  · simp at h

theorem elems_len {E : Env} {ρ : Ren} {w : World} {m : Mem} (hm : MemOk E w ρ m) {ok : Nat → Prop} {x : SV} {vx : Value} (hx : Rel E w ok ρ x vx) {xs : List SV} (h : elems m x = some xs) : ∃ A c, vx = .slice A xs.length c := by
  cases x with
  | snil => simp [elems] at h; subst h; obtain rfl := inv_snil hx; exact ⟨none, 0, rfl⟩
  | lst e l => simp [elems] at h; subst h; obtain ⟨A, c, rfl, _⟩ := rep_lst (inv_lst hx); exact ⟨A, c, rfl⟩
  | row id =>
    simp only [elems] at h
    split at h
    · rename_i e l hg
      cases h
      have hv := inv_row hx
      obtain ⟨d, v', cells, hρ, hd2, hrow, hone, hRC⟩ := objRow (hm.obj id _ hg)
      rw [hv] at hρ; cases hρ
      rcases hrow.2 with ⟨rfl, hl0⟩ | ⟨g, cap, cur, fr, rfl, _⟩
      · exact ⟨none, 0, by rw [hl0]⟩
      · exact ⟨_, _, rfl⟩
    · simp at h
  | _ => simp [elems] at h
end Sx

/-
  Sx, part 11: what operations make: boxes, rows, texts.
-/
set_option linter.unusedVariables false
set_option linter.unusedSimpArgs false
set_option linter.unnecessarySimpa false
namespace Sx
open Go

/-- A new row, or one that takes the place of another one. -/
theorem R.newRow {E : Env} (hE : EnvOk E) {ρ : Ren} {s : St} {a : Act} {w w' : World} (h : R E ρ s a w) {m0 : Mem} (hm0 : ∀ id o, m0.get id = some o → s.mem.get id = some o) {dst : Option Tmp} {e : TypeId} {d : TyD} (hd : E.Ty e = some d) {xs : List SV} {v : Value} {cells : List Value}
    (hblk : ∀ b, blkOf v = some b → w.heap.size ≤ b ∨ (own ρ s.mem b ∧ ¬ own ρ m0 b)) (h1 : w'.os = w.os) (h2 : w'.tape = w.tape) (h3 : w'.output = w.output) (hsz : w.heap.size ≤ w'.heap.size)
    (hfr : ∀ b, b < w.heap.size → blkOf v ≠ some b → w'.heap[b]? = w.heap[b]?) (hrow : RowAt w' E.ng e d.size v xs.length cells) (hone : ∀ u, u ∈ cells → u.oneCell' = true)
    (hc : RowCells E w (fun b => okB w ρ m0 b ∧ blkOf v ≠ some b) d xs cells) {id : Nat} {s' : St} (hf : (⟨s.slots, m0, s.used⟩ : St).fresh dst (.row e xs) = some (id, s')) :
    Comes1 E ρ s a w (.row id) s' v (upd ρ id v) w' := by
  have hv : v.oneCell' = true := by
    rcases hrow.2 with ⟨rfl, _⟩ | ⟨g, cap, cur, fr, rfl, _⟩ <;> rfl
  obtain ⟨k1, k2, k3⟩ := h.made hE hm0 hf v hv hblk (w' := w') hsz hfr
    (fun ok' hok' => .row e d xs v cells (by simp [upd]) hd hrow hone (hc.frame (fun b hb => hfr b hb.1.1 hb.2) (fun b hb => hok' b hb.1 hb.2)))
  exact ⟨k1, .row id v (by simp [upd]), k3, kept_of h1 h2 h3 hsz (fun b hb hn => hfr b hb (fun e => by
    rcases hblk b e with q | q
    · omega
    · exact hn q.1)), k2, hid_upd (fresh_eq hf).2.2⟩

theorem OpDone.of {E : Env} {ρ : Ren} {s : St} {a : Act} {w : World} {run : Result Next} {sv : SV} {s' : St} {v : Value} {ρ' : Ren} {w' : World} (hrun : run = .ok (.value v) w') (h : Comes1 E ρ s a w sv s' v ρ' w') : OpDone E ρ s a w run sv s' :=
  ⟨_, v, ρ', w', hrun, .inl rfl, h⟩

/-! ### rows out of texts -/
theorem byteRow {E : Env} {w : World} {ok : Nat → Prop} {e : TypeId} {d : TyD} (hT : TyOk E.P e d) (hd : d.d = .int .u8) (u : ByteArray) : RowCells E w ok d (bytesOf u) (Lib.strCells u) ∧ d.size = 1 ∧ (Lib.strCells u).length = (bytesOf u).length * d.size := by
  have hck := hT.ck .u8 hd
  have hsz : d.size = 1 := by rw [← hT.cells, hck]; rfl
  have hof : ∀ cs, ofCells d.d cs = cs.headD .dead := by intro cs; rw [hd]; rfl
  refine ⟨⟨fun x hx => ?_, fun i j x s hx hs => ?_⟩, hsz, by rw [Lib.strCells_length, hsz]; simp [bytesOf]⟩
  · obtain ⟨b, _, rfl⟩ := List.mem_map.1 hx
    exact ⟨by rw [hof]; rfl, by rw [hck]; rfl⟩
  · simp only [bytesOf, List.getElem?_map] at hx
    cases hq : u.data.toList[i]? with
    | none => simp [hq] at hx
    | some b =>
      simp [hq] at hx; subst hx
      cases j with
      | succ j => simp [cellsOf] at hs
      | zero =>
        simp [cellsOf] at hs; subst hs
        refine ⟨.int .u8 (b.toNat : Int), ?_, .int _ _⟩
        rw [hsz]
        have : (Lib.strCells u)[i]? = some (.int .u8 (b.toNat : Int)) := by
          simp only [Lib.strCells, List.getElem?_map, hq]; rfl
        simpa using this

theorem Rep.one {E : Env} {w : World} {ok : Nat → Prop} {s : SV} {v : Value} (h : Rep E w ok s v) : v.oneCell' = true := by
  cases h <;> first | rfl | assumption
theorem elems_read {E : Env} (hE : EnvOk E) {ρ : Ren} {w : World} {m : Mem} (hm : MemOk E w ρ m) {x : SV} {vx : Value} (hx : Rel E w (okB w ρ m) ρ x vx) {e : TypeId} {xs : List SV} (h : elemsE e m x = some xs) :
    (xs = [] ∧ ∃ A c, vx = .slice A 0 c) ∨ ∃ d a c, ∃ cells : List Value, vx = .slice (some a) xs.length c ∧ E.Ty e = some d ∧ cells.length = xs.length * d.size ∧ (∀ (j : Nat) u, cells[j]? = some u → w.cell? (a.add j) = some u) ∧ RowCells E w (okB w ρ m) d xs cells ∧ (∀ u, u ∈ cells → u.oneCell' = true) ∧ xs.length ≤ maxLen := by
  cases x with
  | snil => simp [elemsE] at h; subst h; obtain rfl := inv_snil hx; exact .inl ⟨rfl, none, 0, rfl⟩
  | lst e' l =>
    simp only [elemsE, cond_eq_ite] at h
    split at h
    · rename_i hee
      have hee := Nat.eq_of_beq_eq_true hee; subst hee
      cases h
      obtain ⟨A, c, rfl, hne⟩ := rep_lst (inv_lst hx)
      by_cases hl : xs = []
      · subst hl; exact .inl ⟨rfl, A, c, rfl⟩
      · obtain ⟨a, d, u, rfl, hd, hc, hmx, hok, hEl, hcell, hr⟩ := hne hl
        have hsz : 0 < d.size := (hE.ty _ _ hd).pos
        have hRC : RowCells E w (okB w ρ m) d xs ((List.range (xs.length * d.size)).map (fun k => u (k / d.size) (k % d.size))) := ⟨hEl, fun i j x s hxi hs => by
          have hil : i < xs.length := (List.getElem?_eq_some_iff.1 hxi).1
          have hokx := hEl x (List.mem_of_getElem? hxi)
          have hjd : j < d.size := by
            have := (List.getElem?_eq_some_iff.1 hs).1
            rw [← tyCs_length hokx.2, (hE.ty _ _ hd).cells] at this; exact this
          have hlt := mem_lt (sz := d.size) (m := j + 1) hil (by omega) (by omega)
          refine ⟨u i j, ?_, hr i j x s hxi hs⟩
          rw [List.getElem?_map, List.getElem?_range (by omega)]
          have e1 : (i * d.size + j) / d.size = i := by rw [Nat.mul_comm, Nat.mul_add_div hsz]; rw [Nat.div_eq_of_lt hjd]; omega
          have e2 : (i * d.size + j) % d.size = j := by rw [Nat.mul_comm, Nat.mul_add_mod]; exact Nat.mod_eq_of_lt hjd
          simp [e1, e2]⟩
        refine .inr ⟨d, a, c, (List.range (xs.length * d.size)).map (fun k => u (k / d.size) (k % d.size)), rfl, hd, by simp, fun j v hj => ?_, hRC, fun v hv => ?_, hmx⟩
        · have hjl : j < xs.length * d.size := by have := (List.getElem?_eq_some_iff.1 hj).1; simpa using this
          rw [List.getElem?_map, List.getElem?_range hjl] at hj
          simp at hj; subst hj
          have h1 : j / d.size < xs.length := by rw [Nat.div_lt_iff_lt_mul hsz]; exact hjl
          have := hcell (j / d.size) (j % d.size) h1 (Nat.mod_lt _ hsz)
          rwa [Nat.mul_comm, Nat.div_add_mod] at this
        · obtain ⟨k, hk, rfl⟩ := List.mem_map.1 hv
          have hk := List.mem_range.1 hk
          have h1 : k / d.size < xs.length := by rw [Nat.div_lt_iff_lt_mul hsz]; exact hk
          have hx1 : xs[k / d.size]? = some xs[k / d.size] := List.getElem?_eq_getElem h1
          have hokx := hEl _ (List.getElem_mem h1)
          have hlen : (cellsOf xs[k / d.size]).length = d.size := by rw [← tyCs_length hokx.2, (hE.ty _ _ hd).cells]
          have hlt : k % d.size < (cellsOf xs[k / d.size]).length := by rw [hlen]; exact Nat.mod_lt _ hsz
          exact (hr _ _ _ _ hx1 (List.getElem?_eq_getElem hlt)).one
    · simp at h
  | row id =>
    simp only [elemsE] at h
    split at h
    · rename_i e' l hg
      simp only [cond_eq_ite] at h
      split at h
      · rename_i hee
        have hee := Nat.eq_of_beq_eq_true hee; subst hee
        cases h
        have hv := inv_row hx
        obtain ⟨d, v', cells, hρ, hd2, hrow, hone, hRC⟩ := objRow (hm.obj id _ hg)
        rw [hv] at hρ; cases hρ
        rcases hrow.2 with ⟨rfl, hl0⟩ | ⟨g, cap, cur, fr, rfl, hng, hb, hf, hnc, hcm, hcl, htk⟩
        · exact .inl ⟨List.eq_nil_of_length_eq_zero hl0, none, 0, rfl⟩
        · refine .inr ⟨d, _, _, cells, rfl, hd2, hrow.1, fun j u hj => ?_, hRC, hone, by omega⟩
          rw [add_at, Nat.zero_add, cell_blk (vs := cur.toList) (by simpa using hb)]
          rw [← htk, List.getElem?_take] at hj
          split at hj
          · exact hj
          · cases hj
      · simp at h
    · simp at h
  | _ => simp [elemsE] at h

theorem run_strOf {E : Env} (hE : EnvOk E) {w : World} {src dst e : TypeId} {d : TyD} (hs : E.P.underlying src = some (.slice e)) (hde : E.Ty e = some d) (hd : d.d = .int .u8) (hd' : E.P.underlying dst = some .string) {ok : Nat → Prop} {xs : List SV} {cells : List Value} (hl : cells.length = xs.length * d.size) (hRC : RowCells E w ok d xs cells)
    {a : Addr} {c : Nat} (hc : ∀ (j : Nat) u, cells[j]? = some u → w.cell? (a.add j) = some u) : (convert src dst (.slice (some a) xs.length c)).run E.P w = .ok (.string (strOf xs)) w := by
  have hT := hE.ty _ _ hde
  obtain ⟨u, hu, hD⟩ := hT.und
  obtain rfl : u = .int .u8 := by cases u <;> simp_all [DOk]
  have hck := hT.ck .u8 hd
  have hsz : d.size = 1 := by rw [← hT.cells, hck]; rfl
  have hcells : cells = (xs.map asInt).map (Value.int .u8) := by
    apply List.ext_getElem?
    intro j
    rw [hsz, Nat.mul_one] at hl
    by_cases hj : j < xs.length
    · have hxj : xs[j]? = some xs[j] := List.getElem?_eq_getElem hj
      have hok := hRC.1 _ (List.getElem_mem hj)
      have hform : ∃ n, xs[j] = .int .u8 n := by
        obtain ⟨h1, h2⟩ := hok
        rw [hck] at h2
        have hl2 := tyCs_length h2
        match hq : cellsOf xs[j], hl2 with
        | [c], _ =>
          rw [hq] at h2 h1
          simp [tyCs] at h2
          rw [hd] at h1
          simp [ofCells] at h1
          cases c <;> simp [tyC] at h2
          subst h2
          exact ⟨_, h1⟩
      obtain ⟨n, hn⟩ := hform
      obtain ⟨u, hu', hr⟩ := hRC.2 j 0 _ (.int .u8 n) hxj (by rw [hn]; rfl)
      rw [hsz] at hu'
      simp at hu'
      cases hr
      simp [hu', hxj, hn, asInt]
    · rw [List.getElem?_eq_none (by omega), List.getElem?_eq_none (by simp; omega)]
  have hload := run_loadCells_list (P := E.P) w a cells hc
  rw [hcells] at hload
  simp only [List.length_map] at hload
  rw [run_convert_bytes_string w src dst e _ _ c hs hu hd', run_bytesToString w a xs.length c (xs.map asInt) hload, foldl_push_bytes]
  simp [strOf, ByteArray.empty, ByteArray.emptyWithCapacity]
  rfl

/-- One variable of a type lies at the head of its own block. -/
theorem lies_self (P : Program) (t : TypeId) (h : 0 < P.cellsOf t) : liesAt P P.depth t 1 0 t 1 = true := by
  have hd : P.depth = (2 * (P.types.size + Made.depth) + 1) + 1 := rfl
  rw [hd]
  simp only [liesAt, Bool.or_eq_true]
  left
  rw [hd]
  have : P.cellsOf t ≠ 0 := by omega
  simp [rowAt, this, sameLayout]
theorem box_shape {E : Env} (hE : EnvOk E) {w : World} {ρ : Ren} {m : Mem} (hm : MemOk E w ρ m) {id : Nat} {t : TypeId} {cs : List SV} (hg : m.get id = some (.box t cs)) {b : Nat} (hb : ρ id = some (.pointer (some ⟨b, 0, none⟩))) {d : TyD} (hd : E.Ty t = some d) :
    E.P.cellsOf t = d.size ∧ w.shape? b = some (t, d.size) := by
  obtain ⟨i, z, hi, hsz, _⟩ := (hE.ty _ _ hd).info
  refine ⟨by simp [Program.cellsOf, hi, hsz], ?_⟩
  cases hm.obj id _ hg with
  | box _ d' _ b' vs hρ hd' hb' _ hl hty _ =>
    rw [hρ] at hb
    cases hb
    rw [hd] at hd'; cases hd'
    have h1 := tyBCs_length hty
    have h2 := (hE.ty _ _ hd).cells
    simp only [World.shape?, hb']
    simp
    omega
/-- The run-time's mark behind a row's last cell. -/
def markFr (fr : Nat × Nat) (n : Nat) : Nat × Nat := if fr.1 == fr.2 then (n, n + 1) else (min fr.1 n, max fr.2 (n + 1))
theorem run_convert_same {P : Program} {w : World} {t e e' : TypeId} {g n c : Nat} {cur : Array Value} {fr : Nat × Nat} (ht : P.underlying t = some (.slice e)) (he : P.underlying e = some (.int .u8)) (hg : w.heap[g]? = some (.cells cur e' fr)) :
    (convert t t (.slice (some ⟨g, 0, none⟩) n c)).run P w = .ok (.slice (some ⟨g, 0, none⟩) n c) (setBlk w g (.cells cur e' (markFr fr cur.size))) := by
  have hsh : w.shape? g = some (e', cur.size) := by
    unfold World.shape?
    rw [hg]
  have hfr : w.freeze ⟨g, cur.size, none⟩ 1 = setBlk w g (.cells cur e' (markFr fr cur.size)) := by
    unfold World.freeze setBlk
    rw [if_neg (by decide)]
    congr 1
    apply Array.ext_getElem?
    intro i
    rw [Array.getElem?_modify, Array.getElem?_setIfInBounds]
    by_cases q : g = i
    · subst q
      have h3 : g < w.heap.size := (Array.getElem?_eq_some_iff.1 hg).1
      rw [if_pos rfl, if_pos rfl, if_pos h3, hg]
      unfold markFr
      rfl
    · rw [if_neg q, if_neg q]
  simp [convert, run_underlying ht, run_underlying he, markStringish, hsh]
  exact hfr
theorem convX_sound {E : Env} (hE : EnvOk E) {ρ : Ren} {s : St} {a : Act} {w : World} (hR : R E ρ s a w) {src dst : TypeId} {x : SV} {vx : Value} (hx : Rel E w (okB w ρ s.mem) ρ x vx) {d : Option Tmp} {sv : SV} {s' : St} (h : convX E.Ty src dst x d s = some (true, sv, s')) :
    OpDone E ρ s a w ((do pure (Next.value (← convert src dst vx)) : Sem Next).run E.P w) sv s' := by
  unfold convX at h
  split at h
  · rename_i ds k _ _ _ _ _ k' n hs hd
    cases h
    obtain rfl := inv_int hx
    obtain ⟨u, hu, hD⟩ := (hE.ty _ _ hd).und
    obtain rfl : u = .int k := by cases u <;> simp_all [DOk]
    obtain ⟨u', hu', _⟩ := (hE.ty _ _ hs).und
    exact OpDone.pure hR (rel_int _ _) (by simp [convert, run_underlying hu, run_underlying hu', Conv.intToInt])
  · rename_i ds _ _ _ _ _ u0 hs hd
    cases h
    obtain rfl := inv_str hx
    obtain ⟨u, hu, hD⟩ := (hE.ty _ _ hd).und
    obtain rfl : u = .string := by cases u <;> simp_all [DOk]
    obtain ⟨u', hu', _⟩ := (hE.ty _ _ hs).und
    exact OpDone.pure hR (rel_str _) (by simp [convert, run_underlying hu, run_underlying hu'])
  · rename_i _ _ _ _ _ e _ _ _ _ _ u0 hs hd
    obtain rfl := inv_str hx
    obtain ⟨u, hu, hD⟩ := (hE.ty _ _ hd).und
    obtain rfl : u = .slice e := by cases u <;> simp_all [DOk]
    obtain ⟨u', hu', hD'⟩ := (hE.ty _ _ hs).und
    obtain rfl : u' = .string := by cases u' <;> simp_all [DOk]
    split at h
    · rename_i _ _ _ _ _ he
      cases hf : s.fresh d (.row e (bytesOf u0)) with
      | none => simp [hf] at h
      | some p =>
        obtain ⟨id, s2⟩ := p
        simp [hf] at h
        obtain ⟨hsz, rfl, rfl⟩ := h
        obtain ⟨u2, hu2, hD2⟩ := (hE.ty _ _ he).und
        obtain rfl : u2 = .int .u8 := by cases u2 <;> simp_all [DOk]
        have hrun := run_bytes_of_string (P := E.P) w src dst e u0 hu' hu hu2
        obtain ⟨hRC, hs1, hlen⟩ := byteRow (w := w) (ok := fun b => okB w ρ s.mem b ∧ blkOf (.slice (some ⟨w.heap.size, 0, none⟩) u0.size (grownCap w u0.size 0 e)) ≠ some b) (hE.ty _ _ he) rfl u0
        have hge := grownCap_ge w u0.size 0 e
        have hle := grownCap_le_maxLen w u0.size 0 e (by unfold maxLen; omega)
        have hbl : (bytesOf u0).length = u0.size := by simp [bytesOf]
        have hcm := hR.newRow hE (m0 := s.mem) (fun _ _ x => x) (v := .slice (some ⟨w.heap.size, 0, none⟩) u0.size (grownCap w u0.size 0 e)) (w' := w.drew.alloc (.cells (bytesRow u0 (grownCap w u0.size 0 e)) e ((bytesRow u0 (grownCap w u0.size 0 e)).size, (bytesRow u0 (grownCap w u0.size 0 e)).size + 1))) he (cells := Lib.strCells u0) (fun b hb => by simp [blkOf] at hb; omega) rfl rfl rfl (by simp) (fun b hb _ => Go.RowKit.Below.heap_alloc w.drew _ b hb) ?_ (Lib.strCells_oneCell u0) hRC hf
        · exact OpDone.of (by rw [Sem.run_bind, hrun]; rfl) hcm
        · have hcs : (bytesRow u0 (grownCap w u0.size 0 e)).size = grownCap w u0.size 0 e := by
            simp [bytesRow]
            have : u0.data.size = u0.size := rfl
            omega
          refine ⟨hlen, .inr ⟨w.heap.size, grownCap w u0.size 0 e, bytesRow u0 (grownCap w u0.size 0 e), _, by rw [hbl], hE.gn w hR.g, heap_alloc_new w.drew _, .inr (Nat.le_refl _), by rw [hbl]; exact hge, hle, by rw [hcs, hs1, Nat.mul_one], ?_⟩⟩
          rw [hs1, Nat.mul_one, hbl]
          simp [bytesRow, Lib.strCells]
    · simp at h
  · rename_i x _ _ _ e _ _ _ _ _ _ _ _ _ _ hs hd _
    obtain ⟨u, hu, hD⟩ := (hE.ty _ _ hd).und
    obtain rfl : u = .string := by cases u <;> simp_all [DOk]
    obtain ⟨u', hu', hD'⟩ := (hE.ty _ _ hs).und
    obtain rfl : u' = .slice e := by cases u' <;> simp_all [DOk]
    split at h
    · rename_i _ _ _ _ _ he
      cases hel : elemsE e s.mem x with
      | none => simp [hel] at h
      | some xs =>
        simp [hel] at h
        obtain ⟨rfl, rfl⟩ := h
        obtain ⟨u2, hu2, hD2⟩ := (hE.ty _ _ he).und
        obtain rfl : u2 = .int .u8 := by cases u2 <;> simp_all [DOk]
        rcases elems_read hE hR.mem hx hel with ⟨rfl, A, c, rfl⟩ | ⟨d', ad, c, cells, rfl, hd', hcl, hcell, hRC, hone, hmx⟩
        · refine OpDone.pure hR (rel_str _) ?_
          have h0 : strOf [] = ByteArray.empty := rfl
          rw [h0]
          cases A with
          | none => rw [Sem.run_bind, run_convert_bytes_nil w src e hu' hu2 0 c dst hu]; rfl
          | some ad =>
            have hload := run_loadCells_list (P := E.P) w ad [] (by simp)
            rw [Sem.run_bind, run_convert_bytes_string w src dst e _ _ c hu' hu2 hu, run_bytesToString w ad 0 c [] hload]; rfl
        · rw [he] at hd'; cases hd'
          exact OpDone.pure hR (rel_str _) (by rw [Sem.run_bind, run_strOf hE hu' he rfl hu hcl hRC hcell]; rfl)
    · simp at h
  · rename_i e _ _ _ _ _ _ _ _ _ _ id hs hd
    split at h
    · rename_i t cs de hg he
      simp only [cond_eq_ite] at h
      split at h
      · rename_i hte
        obtain rfl := Nat.eq_of_beq_eq_true hte
        cases h
        obtain ⟨u, hu, hD⟩ := (hE.ty _ _ hs).und
        obtain rfl : u = .pointer t := by cases u <;> simp_all [DOk]
        obtain ⟨u', hu', hD'⟩ := (hE.ty _ _ hd).und
        obtain rfl : u' = .unsafePointer := by cases u' <;> simp_all [DOk]
        obtain ⟨b, hb, rfl⟩ := inv_box hx
        obtain ⟨i, z, hi, hsz, _⟩ := (hE.ty _ _ he).info
        have hpos := (hE.ty _ _ he).pos
        obtain ⟨_, hsh⟩ := box_shape hE hR.mem hg hb he
        exact OpDone.pure hR hx (by rw [Sem.run_bind, Lib.run_to_unsafe w ⟨b, 0, none⟩ hu hu' hi (by omega) hsh hpos]; rfl)
      · simp at h
    · simp at h
  · rename_i e _ _ _ _ _ id hs hd
    split at h
    · rename_i t cs de hg he
      simp only [cond_eq_ite] at h
      split at h
      · rename_i hte
        obtain rfl := Nat.eq_of_beq_eq_true hte
        cases h
        obtain ⟨u, hu, hD⟩ := (hE.ty _ _ hs).und
        obtain rfl : u = .unsafePointer := by cases u <;> simp_all [DOk]
        obtain ⟨u', hu', hD'⟩ := (hE.ty _ _ hd).und
        obtain rfl : u' = .pointer t := by cases u' <;> simp_all [DOk]
        obtain ⟨b, hb, rfl⟩ := inv_box hx
        obtain ⟨i, z, hi, hsz, _⟩ := (hE.ty _ _ he).info
        have hpos := (hE.ty _ _ he).pos
        obtain ⟨hc, hsh⟩ := box_shape hE hR.mem hg hb he
        exact OpDone.pure hR hx (by rw [Sem.run_bind, Lib.run_from_unsafe w ⟨b, 0, none⟩ hu hu' hi hsh (by rw [hc, Nat.div_self hpos]; exact lies_self _ _ (by omega))]; rfl)
      · simp at h
    · simp at h
  · rename_i e _ _ _ _ _ e2 _ _ _ _ _ id hs hd
    simp only [cond_eq_ite] at h
    split at h
    · rename_i hsd
      obtain rfl := Nat.eq_of_beq_eq_true hsd
      split at h
      · rename_i e' xs hde hg
        split at h
        · rename_i hee
          obtain rfl := Nat.eq_of_beq_eq_true hee
          simp only [Option.some.injEq, Prod.mk.injEq] at h
          obtain ⟨hn, rfl, rfl⟩ := h
          have hn := Nat.le_of_ble_eq_true hn
          obtain ⟨u, hu, hD⟩ := (hE.ty _ _ hs).und
          obtain rfl : u = .slice e := by cases u <;> simp_all [DOk]
          obtain ⟨u2, hu2, hD2⟩ := (hE.ty _ _ hde).und
          obtain rfl : u2 = .int .u8 := by cases u2 <;> simp_all [DOk]
          obtain ⟨d2, v2, cells, hρ, hd2, hrow, hone2, hRC⟩ := objRow (hR.mem.obj id _ hg)
          have hv := inv_row hx
          rw [hv] at hρ; cases hρ
          rcases hrow.2 with ⟨rfl, hx0⟩ | ⟨g, cap, cur, fr, rfl, hbg, hgb, hf, hnc, hcm, hcs, htkc⟩
          · omega
          · have hlt : g < w.heap.size := (Array.getElem?_eq_some_iff.1 hgb).1
            have hrun := run_convert_same (n := xs.length) (c := cap) hu hu2 hgb
            have hfr : ∀ b, blkOf (.slice (some ⟨g, 0, none⟩) xs.length cap) ≠ some b → (setBlk w g (.cells cur e (markFr fr cur.size))).heap[b]? = w.heap[b]? := fun b hb => setBlk_ne _ (fun q => hb (by simp [blkOf, q]))
            have hmark : markFr fr cur.size = (0, 0) ∨ cur.size ≤ (markFr fr cur.size).1 := by
              right
              unfold markFr
              split
              · exact Nat.le_refl _
              · rename_i hne
                rcases hf with q | q
                · exact absurd (by rw [q]; rfl) hne
                · simp only; omega
            have hk := hR.wrote hE (m0 := s.mem) (fun _ _ x => x) hg (o' := .row e xs) (w' := setBlk w g (.cells cur e (markFr fr cur.size))) (by rw [setBlk_size]; exact Nat.le_refl _) (fun b hb hn' => hfr b (hn' _ hv))
              (fun ok' hok' => .row e d2 xs _ cells hv hd2 ⟨hrow.1, .inr ⟨g, cap, cur, markFr fr cur.size, rfl, hbg, setBlk_self _ hlt, hmark, hnc, hcm, hcs, htkc⟩⟩ hone2 (hRC.frame (fun b hb => hfr b (fun q => hb.2 (.inl ⟨id, _, _, hg, hv, q⟩))) hok'))
            exact ⟨.value (.slice (some ⟨g, 0, none⟩) xs.length cap), _, ρ, _, by rw [Sem.run_bind, hrun]; rfl, .inl rfl, hk.1, .row _ _ hv, fun _ _ x => x, ⟨rfl, rfl, rfl, by rw [setBlk_size]; exact Nat.le_refl _, fun b hb hn' => hfr b (fun q => hn' ⟨id, _, _, hg, hv, q⟩)⟩, fun b hb => .inl (hk.2 b hb), fun _ x => x⟩
        · cases h
      · cases h
    · cases h
  · simp at h
end Sx

/-
  Sx, part 12: append, make.
-/
set_option linter.unusedVariables false
set_option linter.unusedSimpArgs false
set_option linter.unnecessarySimpa false
namespace Sx
open Go

theorem length_zeroCells (z : Array Value) (n : Nat) : (Builtin.zeroCells z n).toList.length = n * z.size := by rw [Array.length_toList, size_zeroCells]

theorem take_pre {a b : List Value} {n : Nat} (h : a.length = n) : (a ++ b).take n = a := by subst h; exact List.take_left

/-- append, from whatever source: its count and its cells are told in each world with this heap. -/
theorem run_append {P : Program} (w : World) (base : Nat) (t t' ty e : TypeId) (i : TypeInfo) (z : Value) (size bytes : Nat) (ht : P.underlying t = some (.slice e)) (u' : TypeDesc) (ht' : P.underlying t' = some u') (hni : ∀ k, u' ≠ .int k) (hi : P.info? e = some i) (hz : i.zero = some z)
    (hsize : i.size = size) (hby : i.bytes = bytes) (hzs : z.cells.size = size) (hsz : 0 < size) (v : Value) (n : Nat) (xs : List Value) (hrow : RowAt w base e size v n xs) (x : Value) (m : Nat) (news : List Value) (hl : news.length = m * size)
    (hlen : (Builtin.lenOf x).run P w = .ok m w) (hfirst : ∀ w' : World, w'.heap = w.heap → (Builtin.firstCells size m x).run P w' = .ok news.toArray w') (h1 : ∀ u ∈ news, u.oneCell' = true) (h63 : n + m ≤ maxLen) (hbytes : (n + m) * bytes ≤ 140737488355328) (hbase : base ≤ w.heap.size) :
    ∃ v' w', (Builtin.append_ #[t, t'] ty #[v, x]).run P w = .ok v' w' ∧ RowAt w' base e size v' (n + m) (xs ++ news) ∧ w'.os = w.os ∧ w'.tape = w.tape ∧ w'.output = w.output ∧ w.heap.size ≤ w'.heap.size ∧
      (∀ b, b < w.heap.size → blkOf v' ≠ some b → w'.heap[b]? = w.heap[b]?) ∧ (∀ b, blkOf v' = some b → w.heap.size ≤ b ∨ blkOf v = some b) := by
  subst hsize
  subst hby
  have hint : ∀ (α : Type) (A B : α), (match u' with | .int _ => A | _ => B) = B := by intro α A B; cases u' <;> first | rfl | exact absurd rfl (hni _)
  have hsmall : ¬ ((9223372036854775807 : Int) < ((n : Int) + (m : Int))) := by unfold maxLen at h63; omega
  have hlen2 : (xs ++ news).length = (n + m) * i.size := by rw [List.length_append, hrow.1, hl, Nat.add_mul]
  -- the way that grows
  have grow : ∀ (A : Option Addr) (cap : Nat), v = .slice A n cap → cap < n + m → (∀ w' : World, w'.heap = w.heap → (Builtin.firstCells i.size n v).run P w' = .ok xs.toArray w') →
      ∃ v' w', (Builtin.append_ #[t, t'] ty #[v, x]).run P w = .ok v' w' ∧ RowAt w' base e i.size v' (n + m) (xs ++ news) ∧ w'.os = w.os ∧ w'.tape = w.tape ∧ w'.output = w.output ∧ w.heap.size ≤ w'.heap.size ∧
      (∀ b, b < w.heap.size → blkOf v' ≠ some b → w'.heap[b]? = w.heap[b]?) ∧ (∀ b, blkOf v' = some b → w.heap.size ≤ b ∨ blkOf v = some b) := by
    intro A cap hv hcap hold
    subst hv
    have hfit := growslice_fits (bytes := i.bytes) hcap hbytes
    have hge := grownCap_ge w (n + m) cap e
    have hcm : grownCap w (n + m) cap e ≤ maxLen := grownCap_le_maxLen w (n + m) cap e h63
    refine ⟨.slice (some ⟨w.heap.size, 0, none⟩) (n + m) (grownCap w (n + m) cap e), w.drew.alloc (.cells (xs.toArray ++ news.toArray ++ Builtin.zeroCells z.cells (grownCap w (n + m) cap e - (n + m))) e), ?_, ⟨hlen2, .inr ⟨w.heap.size, _, _, (0, 0), rfl, hbase, heap_alloc_new w.drew _, .inl rfl, hge, hcm, ?_, ?_⟩⟩, rfl, rfl, rfl, by simp, fun b hb _ => Go.RowKit.Below.heap_alloc w.drew _ b hb, fun b hb => by simp [blkOf] at hb; omega⟩
    · have n1 : ¬ n + m ≤ cap := by omega
      have n2 : ¬ 281474976710656 < Builtin.nextslicecap (n + m) cap * i.bytes := by omega
      have ho := hold w.drew rfl
      have hf := hfirst w.drew rfl
      simp [Builtin.append_, run_underlying ht, run_underlying ht', Go.sizeOf, typeInfo, hi, hint, hlen, n1, n2, hsmall, zeroValue, hz, Question.forced, ho, hf, newRow]
      refine ⟨rfl, ?_⟩
      rw [show (xs ++ news).toArray = xs.toArray ++ news.toArray by simp, Array.append_assoc]
      rfl
    · simp only [Array.size_append, List.size_toArray, size_zeroCells, hzs, hrow.1, hl, ← Nat.add_mul]
      congr 1
      omega
    · simp only [Array.toList_append]
      exact take_pre hlen2
  rcases hrow.2 with ⟨rfl, rfl⟩ | ⟨g, cap, cur, fr, rfl, hbg, hg, hf, hnc, hcm, hcs, htk⟩
  · have hx : xs = [] := List.eq_nil_of_length_eq_zero (by simpa using hrow.1)
    subst hx
    by_cases hm : m = 0
    · subst hm
      have hn : news = [] := List.eq_nil_of_length_eq_zero (by simpa using hl)
      subst hn
      have hf := hfirst w rfl
      refine ⟨.slice none 0 0, w, ?_, ⟨by simp, .inl ⟨rfl, rfl⟩⟩, rfl, rfl, rfl, Nat.le_refl _, fun _ _ _ => rfl, fun b hb => by simp [blkOf] at hb⟩
      simp [Builtin.append_, run_underlying ht, run_underlying ht', Go.sizeOf, typeInfo, hi, hint, hlen, hf]
    · exact grow none 0 rfl (by omega) (fun w' _ => run_firstCells_none (P := P) (w := w') i.size 0 0 0)
  · have hg' : w.heap[g]? = some (.cells cur.toList.toArray e fr) := by simpa using hg
    have hcl : cur.toList.length = cap * i.size := by simpa using hcs
    have hnl : n * i.size ≤ cap * i.size := Nat.mul_le_mul_right _ hnc
    have hcell : ∀ (w' : World), w'.heap = w.heap → ∀ (j : Nat) (u : Value), xs[j]? = some u → w'.cell? ((⟨g, 0, none⟩ : Addr).add j) = some u := fun w' hw' j u hj => by
      have : w'.heap[g]? = some (.cells cur.toList.toArray e fr) := by rw [hw']; exact hg'
      rw [add_at, Nat.zero_add, cell_blk this]
      rw [← htk, List.getElem?_take] at hj
      split at hj
      · exact hj
      · cases hj
    by_cases hroom : n + m ≤ cap
    · have hf' : fr = (0, 0) ∨ cur.toList.length ≤ fr.1 := by simpa using hf
      have hmul : (n + m) * i.size ≤ cap * i.size := Nat.mul_le_mul_right _ hroom
      rw [Nat.add_mul] at hmul
      have hst := run_storeRow P g (n * i.size) e fr news 0 cur.toList w hg' hf' (by omega) h1
      simp only [Nat.add_zero] at hst
      have hlt : g < w.heap.size := (Array.getElem?_eq_some_iff.1 hg).1
      have hfi := hfirst w rfl
      refine ⟨.slice (some ⟨g, 0, none⟩) (n + m) cap, setBlk w g (.cells (putL cur.toList (n * i.size) news).toArray e fr), ?_, ⟨hlen2, .inr ⟨g, cap, (putL cur.toList (n * i.size) news).toArray, fr, rfl, hbg, setBlk_self _ hlt, by simpa [putL_length] using hf, hroom, hcm, by simp [putL_length, hcs], ?_⟩⟩,
        rfl, rfl, rfl, by rw [setBlk_size]; exact Nat.le_refl _, fun b hb hn => setBlk_ne _ (fun q => hn (by simp [blkOf, q])), fun b hb => .inr hb⟩
      · simp [Builtin.append_, run_underlying ht, run_underlying ht', Go.sizeOf, typeInfo, hi, hint, hlen, hroom, hfi, add_at, hst]
      · apply List.ext_getElem?
        intro j
        rw [List.getElem?_take]
        split
        · rename_i hj
          rw [Nat.add_mul] at hj
          show (putL cur.toList (n * i.size) news)[j]? = _
          by_cases q1 : j < n * i.size
          · rw [putL_lt q1, List.getElem?_append_left (by rw [hrow.1]; exact q1), ← htk, List.getElem?_take, if_pos q1]
          · obtain ⟨j', rfl⟩ : ∃ k, j = n * i.size + k := ⟨j - n * i.size, by omega⟩
            rw [putL_in (by omega) (by omega), List.getElem?_append_right (by rw [hrow.1]; omega), hrow.1]
            congr 1; omega
        · rename_i hj
          symm
          apply List.getElem?_eq_none
          rw [hlen2]; omega
    · exact grow _ cap rfl (by omega) (fun w' hw' => run_firstCells_some (P := P) (w := w') i.size n ⟨g, 0, none⟩ n cap xs hrow.1 (hcell w' hw'))

theorem RowCells.append {E : Env} {w : World} {ok : Nat → Prop} {d : TyD} {xs ys : List SV} {cells news : List Value} (h : RowCells E w ok d xs cells) (k : RowCells E w ok d ys news) (hl : cells.length = xs.length * d.size) (hsz : ∀ x, x ∈ xs → (cellsOf x).length = d.size) : RowCells E w ok d (xs ++ ys) (cells ++ news) := by
  refine ⟨fun x hx => ?_, fun i j x s hx hs => ?_⟩
  · rcases List.mem_append.1 hx with q | q
    · exact h.1 x q
    · exact k.1 x q
  · by_cases q : i < xs.length
    · rw [List.getElem?_append_left q] at hx
      obtain ⟨u, hu, hr⟩ := h.2 i j x s hx hs
      have : i * d.size + j < cells.length := (List.getElem?_eq_some_iff.1 hu).1
      exact ⟨u, by rw [List.getElem?_append_left this]; exact hu, hr⟩
    · rw [List.getElem?_append_right (by omega)] at hx
      obtain ⟨u, hu, hr⟩ := k.2 _ j x s hx hs
      have hm : xs.length * d.size ≤ i * d.size := Nat.mul_le_mul_right _ (by omega)
      refine ⟨u, ?_, hr⟩
      rw [List.getElem?_append_right (by rw [hl]; omega), hl, ← hu]
      congr 1
      rw [Nat.sub_mul]; omega

theorem elemsE_lenOf {E : Env} (hE : EnvOk E) {ρ : Ren} {w : World} {m : Mem} (hm : MemOk E w ρ m) {x : SV} {vx : Value} (hx : Rel E w (okB w ρ m) ρ x vx) {e : TypeId} {d : TyD} (hd : E.Ty e = some d) {ys : List SV} (h : elemsE e m x = some ys) :
    ∃ news : List Value, news.length = ys.length * d.size ∧ (Builtin.lenOf vx).run E.P w = .ok ys.length w ∧ (∀ w' : World, w'.heap = w.heap → (Builtin.firstCells d.size ys.length vx).run E.P w' = .ok news.toArray w') ∧ (∀ u ∈ news, u.oneCell' = true) ∧ RowCells E w (okB w ρ m) d ys news ∧ ys.length ≤ maxLen := by
  rcases elems_read hE hm hx h with ⟨rfl, A, c, rfl⟩ | ⟨d', a, c, cells, rfl, hd', hcl, hcell, hRC, hone, hmx⟩
  · refine ⟨[], by simp, by simp [Builtin.lenOf], fun w' _ => ?_, by simp, ⟨by simp, fun i j x s hx => by simp at hx⟩, by simp⟩
    cases A with
    | none => exact run_firstCells_none (P := E.P) (w := w') d.size 0 0 c
    | some a => exact run_firstCells_some (P := E.P) (w := w') d.size 0 a 0 c [] (by simp) (by simp)
  · rw [hd] at hd'; cases hd'
    refine ⟨cells, hcl, by simp [Builtin.lenOf], fun w' hw' => ?_, hone, hRC, hmx⟩
    refine run_firstCells_some (P := E.P) (w := w') d.size ys.length a ys.length c cells hcl (fun j v hj => ?_)
    have := hcell j v hj
    have hb : w'.heap[a.block]? = w.heap[a.block]? := by rw [hw']
    rw [cell?_congr hb]; exact this

theorem appendX_sound {E : Env} (hE : EnvOk E) {ρ : Ren} {s : St} {a : Act} {w : World} (hR : R E ρ s a w) {t t' ty : TypeId} {x y : SV} {vx vy : Value} (hx : Rel E w (okB w ρ s.mem) ρ x vx) (hy : Rel E w (okB w ρ s.mem) ρ y vy) (u' : TypeDesc) (ht' : E.P.underlying t' = some u') (hni : ∀ k, u' ≠ .int k)
    {dst : Option Tmp} {sv : SV} {s' : St} (h : appendX E.Ty t x y dst s = some (true, sv, s')) : OpDone E ρ s a w ((do pure (Next.value (← Builtin.append_ #[t, t'] ty #[vx, vy])) : Sem Next).run E.P w) sv s' := by
  unfold appendX at h
  split at h
  · rename_i e _ _ _ _ _ ht
    obtain ⟨u, hu, hD⟩ := (hE.ty _ _ ht).und
    obtain rfl : u = .slice e := by cases u <;> simp_all [DOk]
    cases hde : E.Ty e with
    | none => simp [hde] at h
    | some d =>
      simp only [hde] at h
      have hT := hE.ty _ _ hde
      obtain ⟨i, z, hi, his, hib, hiz, hzs, _⟩ := hT.info
      -- the source
      have src : ∀ ys, (match y with | .str u => (match d.d with | .int .u8 => some (bytesOf u) | _ => none) | y => elemsE e s.mem y) = some ys →
          ∃ news : List Value, news.length = ys.length * d.size ∧ (Builtin.lenOf vy).run E.P w = .ok ys.length w ∧ (∀ w' : World, w'.heap = w.heap → (Builtin.firstCells d.size ys.length vy).run E.P w' = .ok news.toArray w') ∧ (∀ u ∈ news, u.oneCell' = true) ∧ RowCells E w (okB w ρ s.mem) d ys news := by
        intro ys hys
        split at hys
        · rename_i u
          obtain rfl := inv_str hy
          split at hys
          · rename_i hk
            cases hys
            obtain ⟨hRC, hs1, hl⟩ := byteRow (w := w) (ok := okB w ρ s.mem) hT hk u
            have hbl : (bytesOf u).length = u.size := by simp [bytesOf]
            exact ⟨Lib.strCells u, hl, by simp [Builtin.lenOf, hbl], fun w' _ => by rw [hbl]; exact Lib.run_firstCells_string (P := E.P) (w := w') d.size u, Lib.strCells_oneCell u, hRC⟩
          · simp at hys
        · obtain ⟨news, h1, h2, h3, h4, h5, _⟩ := elemsE_lenOf hE hR.mem hy hde hys
          exact ⟨news, h1, h2, h3, h4, h5⟩
      split at h
      · simp at h
      · rename_i ys hys
        obtain ⟨news, hnl, hlen, hfirst, hone, hRCn⟩ := src ys hys
        -- onto a row that is the call's own
        have onto : ∀ (m0 : Mem) (xs : List SV) (cells : List Value), (∀ id o, m0.get id = some o → s.mem.get id = some o) → RowAt w E.ng e d.size vx xs.length cells → (∀ u, u ∈ cells → u.oneCell' = true) → RowCells E w (okB w ρ s.mem) d xs cells →
            (∀ b, blkOf vx = some b → own ρ s.mem b ∧ ¬ own ρ m0 b) → (match (⟨s.slots, m0, s.used⟩ : St).fresh dst (.row e (xs ++ ys)) with | some (id', s') => some (decide ((xs.length + ys.length) * d.bytes ≤ 140737488355328) && decide (xs.length + ys.length ≤ 9223372036854775807), SV.row id', s') | none => none) = some (true, sv, s') →
            OpDone E ρ s a w ((do pure (Next.value (← Builtin.append_ #[t, t'] ty #[vx, vy])) : Sem Next).run E.P w) sv s' := by
          intro m0 xs cells hm0 hrow hone2 hRC hown hq
          cases hf : (⟨s.slots, m0, s.used⟩ : St).fresh dst (.row e (xs ++ ys)) with
          | none => simp [hf] at hq
          | some p =>
            obtain ⟨id, s2⟩ := p
            simp [hf] at hq
            obtain ⟨⟨hb1, hb2⟩, rfl, rfl⟩ := hq
            obtain ⟨v', w', hrun, hrow', h1, h2, h3, hsz, hfr, hbl⟩ := run_append (P := E.P) w E.ng t t' ty e i z d.size d.bytes hu u' ht' hni hi hiz his hib hzs hT.pos vx xs.length cells hrow vy ys.length news hnl hlen hfirst hone (by unfold maxLen; omega) (by omega) (hE.gn w hR.g)
            have hsub : ∀ b, okB w ρ s.mem b → okB w ρ m0 b ∧ blkOf v' ≠ some b := fun b hb => ⟨⟨hb.1, fun q => hb.2 (q.imp (own_sub hm0) (fun x => x))⟩, fun e => by
              rcases hbl b e with q | q
              · have := hb.1; omega
              · exact hb.2 (.inl (hown b q).1)⟩
            have hcm := hR.newRow hE hm0 (v := v') (w' := w') hde (cells := cells ++ news) (fun b hb => by
              rcases hbl b hb with q | q
              · exact .inl q
              · exact .inr (hown b q)) h1 h2 h3 hsz hfr (by rw [List.length_append]; exact hrow') (fun u hu => by
                rcases List.mem_append.1 hu with q | q
                · exact hone2 u q
                · exact hone u q)
              ((hRC.append hRCn hrow.1 (fun x hx => by rw [← tyCs_length (hRC.1 x hx).2, hT.cells])).frame (fun _ _ => rfl) hsub) hf
            exact OpDone.of (by rw [Sem.run_bind, hrun]; rfl) hcm
        split at h
        · -- onto nil
          obtain rfl := inv_snil hx
          have hq := onto s.mem [] [] (fun _ _ x => x) ⟨by simp, .inl ⟨rfl, rfl⟩⟩ (by simp) ⟨by simp, fun i j x s hx => by simp at hx⟩ (fun b hb => by simp [blkOf] at hb)
          exact hq h
        · -- onto a row
          rename_i id
          have row : ∀ xs e', s.mem.get id = some (.row e' xs) → Nat.beq e e' = true → (match (⟨s.slots, s.mem.del id, s.used⟩ : St).fresh dst (.row e (xs ++ ys)) with | some (id', s') => some (decide ((xs.length + ys.length) * d.bytes ≤ 140737488355328) && decide (xs.length + ys.length ≤ 9223372036854775807), SV.row id', s') | none => none) = some (true, sv, s') →
              OpDone E ρ s a w ((do pure (Next.value (← Builtin.append_ #[t, t'] ty #[vx, vy])) : Sem Next).run E.P w) sv s' := by
            intro xs e' hg hee hq
            have hee := Nat.eq_of_beq_eq_true hee; subst hee
            obtain ⟨d2, v2, cells, hρ, hd2, hrow, hone2, hRC⟩ := objRow (hR.mem.obj id _ hg)
            have hv := inv_row hx
            rw [hv] at hρ; cases hρ
            rw [hde] at hd2; cases hd2
            refine onto (s.mem.del id) xs cells (fun i o hi => (Mem.get_del hi).2) hrow hone2 hRC (fun b hb => ⟨⟨id, _, _, hg, hv, hb⟩, fun q => ?_⟩) hq
            obtain ⟨i', o', v', hgi, hvi, hbi⟩ := q
            obtain ⟨hne, hgi'⟩ := Mem.get_del hgi
            exact hR.mem.sep id i' _ o' _ v' b hne hg hgi' hv hvi hb hbi
          split at h
          · rename_i e' xs id2 hg
            simp only [cond_eq_ite] at h
            split at h
            · rename_i hq
              simp only [Bool.and_eq_true] at hq
              exact row xs e' hg hq.1 h
            · simp at h
          · rename_i e' xs hg _
            simp only [cond_eq_ite] at h
            split at h
            · rename_i hq
              exact row xs e' hg hq h
            · simp at h
          · simp at h
        · simp at h
  · simp at h
end Sx

/-
  Sx, part 12b: copy, into a row of one's own.
-/
set_option linter.unusedVariables false
set_option linter.unusedSimpArgs false
set_option linter.unnecessarySimpa false
namespace Sx
open Go

theorem RowCells.take {E : Env} {w : World} {ok : Nat → Prop} {d : TyD} {xs : List SV} {cells : List Value} (h : RowCells E w ok d xs cells) (hsz : ∀ x, x ∈ xs → (cellsOf x).length = d.size) (hpos : 0 < d.size) (n : Nat) : RowCells E w ok d (xs.take n) (cells.take (n * d.size)) := by
  refine ⟨fun x hx => h.1 x (List.mem_of_mem_take hx), fun i j x s hx hs => ?_⟩
  rw [List.getElem?_take] at hx
  split at hx
  · rename_i hi
    obtain ⟨u, hu, hr⟩ := h.2 i j x s hx hs
    have hj : j < d.size := by rw [← hsz x (List.mem_of_getElem? hx)]; exact (List.getElem?_eq_some_iff.1 hs).1
    have := mem_lt (sz := d.size) (m := j + 1) hi (by omega) (by omega)
    refine ⟨u, ?_, hr⟩
    rw [List.getElem?_take, if_pos (by omega)]; exact hu
  · cases hx
theorem RowCells.drop {E : Env} {w : World} {ok : Nat → Prop} {d : TyD} {xs : List SV} {cells : List Value} (h : RowCells E w ok d xs cells) (n : Nat) : RowCells E w ok d (xs.drop n) (cells.drop (n * d.size)) := by
  refine ⟨fun x hx => h.1 x (List.mem_of_mem_drop hx), fun i j x s hx hs => ?_⟩
  rw [List.getElem?_drop] at hx
  obtain ⟨u, hu, hr⟩ := h.2 _ j x s hx hs
  refine ⟨u, ?_, hr⟩
  rw [List.getElem?_drop, ← hu]
  congr 1
  rw [Nat.add_mul]; omega

theorem RowCells.sizes {E : Env} (hE : EnvOk E) {e : TypeId} {w : World} {ok : Nat → Prop} {d : TyD} (hd : E.Ty e = some d) {xs : List SV} {cells : List Value} (h : RowCells E w ok d xs cells) : ∀ x, x ∈ xs → (cellsOf x).length = d.size := fun x hx => by
  rw [← tyCs_length (h.1 x hx).2, (hE.ty _ _ hd).cells]

theorem natMin_eq (a b : Nat) : Nat.min a b = min a b := rfl

theorem copyX_sound {E : Env} (hE : EnvOk E) {ρ : Ren} {s : St} {a : Act} {w : World} (hR : R E ρ s a w) {t t' ty : TypeId} {x y : SV} {vx vy : Value} (hx : Rel E w (okB w ρ s.mem) ρ x vx) (hy : Rel E w (okB w ρ s.mem) ρ y vy)
    {sv : SV} {s' : St} (h : copyX E.Ty t x y s = some (true, sv, s')) : OpDone E ρ s a w ((do pure (Next.value (← Builtin.copy_ #[t, t'] ty #[vx, vy])) : Sem Next).run E.P w) sv s' := by
  unfold copyX at h
  split at h
  · rename_i e _ _ _ _ _ id ht
    obtain ⟨u, hu, hD⟩ := (hE.ty _ _ ht).und
    obtain rfl : u = .slice e := by cases u <;> simp_all [DOk]
    split at h
    · rename_i e' xs hg
      simp only [cond_eq_ite] at h
      split at h
      · rename_i hq
        have hee := Nat.eq_of_beq_eq_true (Bool.and_eq_true_iff.1 hq).1
        subst hee
        have hnot := (Bool.and_eq_true_iff.1 hq).2
        split at h
        · rename_i d ys hde hys
          cases h
          have hT := hE.ty _ _ hde
          obtain ⟨i, z, hi, his, hib, hiz, hzs, _⟩ := hT.info
          obtain ⟨d2, v2, cells, hρ, hd2, hrow, hone2, hRC⟩ := objRow (hR.mem.obj id _ hg)
          have hv := inv_row hx
          rw [hv] at hρ; cases hρ
          rw [hde] at hd2; cases hd2
          have hpos := hT.pos
          -- the source
          obtain ⟨news, hnl, hlen, hfirst, hone, hRCn, hmx⟩ := elemsE_lenOf hE hR.mem hy hde hys
          have hfst : (Builtin.firstCells d.size (min ys.length xs.length) vy).run E.P w = .ok (news.take (min ys.length xs.length * d.size)).toArray w := by
            rcases elems_read hE hR.mem hy hys with ⟨rfl, A, c, rfl⟩ | ⟨d', a', c, cells', rfl, hd', hcl, hcell, hRC', hone', hmx'⟩
            · have : min ([] : List SV).length xs.length = 0 := by simp
              rw [this, Nat.zero_mul, List.take_zero]
              have hn : news = [] := List.eq_nil_of_length_eq_zero (by simpa using hnl)
              subst hn
              cases A with
              | none => exact run_firstCells_none (P := E.P) (w := w) d.size 0 0 c
              | some a => exact run_firstCells_some (P := E.P) (w := w) d.size 0 a 0 c [] (by simp) (by simp)
            · rw [hde] at hd'; cases hd'
              have e1 := hfirst w rfl
              rw [run_firstCells_some (P := E.P) (w := w) d.size ys.length a' ys.length c cells' hcl hcell] at e1
              have e2 : cells' = news := by
                have : cells'.toArray = news.toArray := by injection e1
                simpa using this
              subst e2
              have hle : min ys.length xs.length * d.size ≤ ys.length * d.size := Nat.mul_le_mul_right _ (Nat.min_le_left _ _)
              refine run_firstCells_some (P := E.P) (w := w) d.size _ a' ys.length c _ (by rw [List.length_take, hcl]; omega) (fun j v hj => ?_)
              rw [List.getElem?_take] at hj
              split at hj
              · exact hcell j v hj
              · cases hj
          -- the new row
          have hRC2 : RowCells E w (okB w ρ s.mem) d (ys.take xs.length ++ xs.drop ys.length) (news.take (xs.length * d.size) ++ cells.drop (ys.length * d.size)) :=
            (hRCn.take (hRCn.sizes hE hde) hpos xs.length).append (hRC.drop ys.length) (by
              rw [List.length_take, List.length_take, hnl]
              rcases Nat.le_total xs.length ys.length with q | q
              · rw [Nat.min_eq_left q, Nat.min_eq_left (Nat.mul_le_mul_right _ q)]
              · rw [Nat.min_eq_right q, Nat.min_eq_right (Nat.mul_le_mul_right _ q)]) (fun x hx => hRCn.sizes hE hde x (List.mem_of_mem_take hx))
          have hone3 : ∀ u, u ∈ news.take (xs.length * d.size) ++ cells.drop (ys.length * d.size) → u.oneCell' = true := fun u hu => by
            rcases List.mem_append.1 hu with q | q
            · exact hone u (List.mem_of_mem_take q)
            · exact hone2 u (List.mem_of_mem_drop q)
          have hlen3 : (ys.take xs.length ++ xs.drop ys.length).length = xs.length := by simp; omega
          have hlc : cells.length = xs.length * d.size := hrow.1
          have hlen4 : (news.take (xs.length * d.size) ++ cells.drop (ys.length * d.size)).length = xs.length * d.size := by
            rw [List.length_append, List.length_take, List.length_drop, hnl, hlc]
            rcases Nat.le_total xs.length ys.length with q | q
            · have := Nat.mul_le_mul_right d.size q; omega
            · have := Nat.mul_le_mul_right d.size q; omega
          have hmin : min ys.length xs.length * d.size = min (ys.length * d.size) (xs.length * d.size) := by
            rcases Nat.le_total xs.length ys.length with q | q
            · have := Nat.mul_le_mul_right d.size q; rw [Nat.min_eq_right q, Nat.min_eq_right this]
            · have := Nat.mul_le_mul_right d.size q; rw [Nat.min_eq_left q, Nat.min_eq_left this]
          have htk : news.take (min ys.length xs.length * d.size) = news.take (xs.length * d.size) := by
            rw [hmin]
            rcases Nat.le_total (xs.length * d.size) (ys.length * d.size) with q | q
            · rw [Nat.min_eq_right q]
            · rw [Nat.min_eq_left q, List.take_of_length_le (by omega), List.take_of_length_le (by omega)]
          -- the end, in a world of one block written
          have fin : ∀ w' v, (Builtin.copy_ #[t, t'] ty #[vx, vy]).run E.P w = .ok (goInt ((min ys.length xs.length : Nat) : Int)) w' → ρ id = some v → RowAt w' E.ng e d.size v xs.length (news.take (xs.length * d.size) ++ cells.drop (ys.length * d.size)) → w'.os = w.os → w'.tape = w.tape → w'.output = w.output → w.heap.size ≤ w'.heap.size →
              (∀ b, b < w.heap.size → blkOf v ≠ some b → w'.heap[b]? = w.heap[b]?) → OpDone E ρ s a w ((do pure (Next.value (← Builtin.copy_ #[t, t'] ty #[vx, vy])) : Sem Next).run E.P w) (.int .i64 ((min ys.length xs.length : Nat) : Int)) { s with mem := s.mem.put id (.row e (ys.take xs.length ++ xs.drop ys.length)) } := by
            intro w' v hrun hρv hrow' h1 h2 h3 hsz hfr
            have hk := hR.wrote hE (m0 := s.mem) (fun _ _ x => x) hg (o' := .row e (ys.take xs.length ++ xs.drop ys.length)) (w' := w') hsz (fun b hb hn => hfr b hb (hn v hρv))
              (fun ok' hok' => .row e d _ v _ hρv hde (by rw [hlen3]; exact hrow') hone3 (hRC2.frame (fun b hb => hfr b hb.1 (fun q => hb.2 (.inl ⟨id, _, _, hg, hρv, q⟩))) hok'))
            refine ⟨.value (goInt ((min ys.length xs.length : Nat) : Int)), _, ρ, w', by rw [Sem.run_bind, hrun]; rfl, .inl rfl, hk.1, rel_int _ _, fun _ _ x => x, ⟨h1, h2, h3, hsz, fun b hb hn => hfr b hb (fun q => hn ⟨id, _, _, hg, hρv, q⟩)⟩, fun b hb => .inl (hk.2 b hb), fun _ x => x⟩
          rcases hrow.2 with ⟨rfl, hx0⟩ | ⟨g, cap, cur, fr, rfl, hbg, hgb, hf, hnc, hcm, hcs, htkc⟩
          · have hxs : xs = [] := List.eq_nil_of_length_eq_zero hx0
            subst hxs
            have hmin0 : min ys.length ([] : List SV).length = 0 := by simp
            rw [hmin0] at hfst
            refine fin w _ ?_ hv ⟨by simpa using hlen4, .inl ⟨rfl, rfl⟩⟩ rfl rfl rfl (Nat.le_refl _) (fun _ _ _ => rfl)
            rw [hmin0]
            simp [Builtin.copy_, run_underlying hu, Go.sizeOf, typeInfo, hi, his, hlen, natMin_eq, hfst]
          · have hgb' : w.heap[g]? = some (.cells cur.toList.toArray e fr) := by simpa using hgb
            have hlt : g < w.heap.size := (Array.getElem?_eq_some_iff.1 hgb).1
            have hcl : cur.toList.length = cap * d.size := by simpa using hcs
            have hle : xs.length * d.size ≤ cap * d.size := Nat.mul_le_mul_right _ hnc
            have htl : (news.take (xs.length * d.size)).length ≤ xs.length * d.size := by rw [List.length_take]; omega
            have hst := run_storeRow E.P g 0 e fr (news.take (xs.length * d.size)) 0 cur.toList w hgb' (by simpa using hf) (by omega) (fun u hu => hone u (List.mem_of_mem_take hu))
            simp only [Nat.add_zero] at hst
            refine fin (setBlk w g (.cells (putL cur.toList 0 (news.take (xs.length * d.size))).toArray e fr)) _ ?_ hv ⟨hlen4, .inr ⟨g, cap, (putL cur.toList 0 (news.take (xs.length * d.size))).toArray, fr, rfl, hbg, setBlk_self _ hlt, by simpa [putL_length] using hf, hnc, hcm, by simp [putL_length, hcs], ?_⟩⟩ rfl rfl rfl (by rw [setBlk_size]; exact Nat.le_refl _) (fun b hb hn => setBlk_ne _ (fun q => hn (by simp [blkOf, q])))
            · rw [htk] at hfst
              simp [Builtin.copy_, run_underlying hu, Go.sizeOf, typeInfo, hi, his, hlen, natMin_eq, hfst, hst]
            · apply List.ext_getElem?
              intro j
              rw [List.getElem?_take]
              have hnt : (news.take (xs.length * d.size)).length = min (xs.length * d.size) (ys.length * d.size) := by rw [List.length_take, hnl]
              split
              · rename_i hj
                show (putL cur.toList 0 (news.take (xs.length * d.size)))[j]? = _
                by_cases q1 : j < (news.take (xs.length * d.size)).length
                · have := putL_in (l := cur.toList) (o := 0) (j := j) (vs := news.take (xs.length * d.size)) (by omega) q1
                  rw [Nat.zero_add] at this
                  rw [this, List.getElem?_append_left q1]
                · rw [putL_ge (by simp only [Nat.zero_add]; exact Nat.le_of_not_lt q1), List.getElem?_append_right (Nat.le_of_not_lt q1), List.getElem?_drop, ← htkc, List.getElem?_take]
                  have hm : (news.take (xs.length * d.size)).length = ys.length * d.size := by omega
                  rw [hm] at q1
                  rw [hm, if_pos (by omega)]
                  congr 1; omega
              · rename_i hj
                symm
                apply List.getElem?_eq_none
                omega
        · cases h
      · cases h
    · cases h
  · cases h
end Sx

/-
  Sx, part 13: make, slices of slices and texts, literals.
-/
set_option linter.unusedVariables false
set_option linter.unusedSimpArgs false
set_option linter.unnecessarySimpa false
namespace Sx
open Go

theorem tyC_cellish {k : CK} {s : SV} (h : tyC k s = true) : cellish s = true := by cases k <;> cases s <;> first | rfl | (simp [tyC] at h)

theorem zeroCs_sound {E : Env} {w : World} {ok : Nat → Prop} : ∀ {ks : List CK} {zs ys : List SV}, zeroCs ks zs = some ys → ys.length = zs.length ∧ tyCs ks ys = true ∧ ∀ (j : Nat) z y u, zs[j]? = some z → ys[j]? = some y → valOf z = some u → Rep E w ok y u
  | [], [], ys, h => by simp [zeroCs] at h; subst h; exact ⟨rfl, rfl, fun j z y u hz => by simp at hz⟩
  | [], _ :: _, _, h => by simp [zeroCs] at h
  | _ :: _, [], _, h => by simp [zeroCs] at h
  | k :: ks, z :: zs, ys, h => by
    simp only [zeroCs] at h
    split at h
    · rename_i y l hy hl
      cases h
      obtain ⟨h1, h2, h3⟩ := zeroCs_sound (E := E) (w := w) (ok := ok) hl
      have key : tyC k y = true ∧ ∀ u, valOf z = some u → Rep E w ok y u := by
        split at hy
        · cases hy; exact ⟨by simp [tyC, Nat.beq_refl], fun u hu => by simp [valOf] at hu; subst hu; exact .lst0 _ _ _⟩
        · simp at hy
        · simp only [cond_eq_ite] at hy
          split at hy
          · rename_i hne hty
            cases hy
            refine ⟨hty, fun u hu => ?_⟩
            cases k <;> cases z <;> simp [tyC] at hty <;> simp [valOf] at hu
            · subst hu; exact .bool _
            · subst hu; exact .int _ _
            · subst hu; exact .str _
          · simp at hy
      refine ⟨by simp [h1], by simp [tyCs, key.1, h2], fun j z' y' u hz hy' hu => ?_⟩
      cases j with
      | zero => simp at hz hy'; subst hz; subst hy'; exact key.2 u hu
      | succ j => exact h3 j z' y' u (by simpa using hz) (by simpa using hy') hu
    · simp at h

theorem cellsOf_ofCells {P : Program} {e : TypeId} {d : TyD} (hT : TyOk P e d) {vs : List SV} (hl : vs.length = d.size) (hty : tyCs d.cells vs = true) : cellsOf (ofCells d.d vs) = vs := by
  cases hag : d.d.isAgg with
  | true =>
    have : ofCells d.d vs = .agg vs := by unfold ofCells; cases hq : d.d <;> simp_all [D.isAgg]
    rw [this]; rfl
  | false =>
    have h1 := hT.one hag
    have : ofCells d.d vs = vs.headD .dead := by unfold ofCells; cases hq : d.d <;> simp_all [D.isAgg]
    rw [this]
    rw [h1] at hl
    match vs, hl with
    | [c], _ =>
      have hk0 : ∃ k, d.cells[0]? = some k := ⟨_, List.getElem?_eq_getElem (by have := hT.cells; omega)⟩
      obtain ⟨k0, hk0⟩ := hk0
      exact cellsOf_cellish (tyC_cellish (tyCs_get hty 0 k0 c hk0 rfl))

/-- Nought, as data. -/
theorem zeroData_sound {E : Env} {e : TypeId} {d : TyD} (hT : TyOk E.P e d) {z : SV} (h : zeroData d = some z) (w : World) (ok : Nat → Prop) : ∃ i zv, E.P.info? e = some i ∧ i.size = d.size ∧ i.bytes = d.bytes ∧ i.zero = some zv ∧ zv.cells.size = d.size ∧ okE d z ∧ (cellsOf z).length = d.size ∧
    (∀ (j : Nat) s, (cellsOf z)[j]? = some s → ∃ u, zv.cells.toList[j]? = some u ∧ Rep E w ok s u) ∧ (∀ u ∈ zv.cells.toList, u.oneCell' = true) := by
  obtain ⟨i, zv, hi, his, hib, hiz, hzs, hzl, hzv⟩ := hT.info
  unfold zeroData at h
  cases ht : zeroCs d.cells d.zero with
  | none => simp [ht] at h
  | some vs =>
    simp [ht] at h
    obtain ⟨h1, h2, h3⟩ := zeroCs_sound (E := E) (w := w) (ok := ok) ht
    have hce : cellsOf z = vs := by rw [← h]; exact cellsOf_ofCells hT (by omega) h2
    have any : ∀ (j : Nat) s, vs[j]? = some s → ∃ u, zv.cells.toList[j]? = some u ∧ Rep E w ok s u := fun j s hs => by
      have hj : j < d.zero.length := by rw [← h1]; exact (List.getElem?_eq_some_iff.1 hs).1
      obtain ⟨u, hu, hu'⟩ := hzv j _ (List.getElem?_eq_getElem hj)
      exact ⟨u, by simpa using hu', h3 j _ s u (List.getElem?_eq_getElem hj) hs hu⟩
    refine ⟨i, zv, hi, his, hib, hiz, hzs, ⟨by rw [hce]; exact h.symm, by rw [hce]; exact h2⟩, by rw [hce]; omega, fun j s hs => by rw [hce] at hs; exact any j s hs, fun u hu => ?_⟩
    obtain ⟨j, hj⟩ := List.getElem?_of_mem hu
    have hjl : j < vs.length := by have := (List.getElem?_eq_some_iff.1 hj).1; simp at this; omega
    obtain ⟨u', hu', hr⟩ := any j _ (List.getElem?_eq_getElem hjl)
    rw [hj] at hu'; cases hu'
    exact hr.one

/-- n times nought. -/
theorem zeroRow {E : Env} {e : TypeId} {d : TyD} (hT : TyOk E.P e d) {z : SV} (h : zeroData d = some z) (w : World) (ok : Nat → Prop) (n : Nat) {zv : Value} (hzs : zv.cells.size = d.size) (hcell : ∀ (j : Nat) s, (cellsOf z)[j]? = some s → ∃ u, zv.cells.toList[j]? = some u ∧ Rep E w ok s u) (hok : okE d z) (cells : List Value)
    (hl : n * d.size ≤ cells.length) (hc : ∀ (k : Nat), k < n * d.size → cells[k]? = zv.cells.toList[k % d.size]?) : RowCells E w ok d (List.replicate n z) (cells.take (n * d.size)) := by
  refine ⟨fun x hx => by rw [(List.mem_replicate.1 hx).2]; exact hok, fun i j x s hx hs => ?_⟩
  have hi : i < n := by have := (List.getElem?_eq_some_iff.1 hx).1; simpa using this
  have hxz : x = z := by rw [List.getElem?_replicate, if_pos hi] at hx; exact (Option.some.inj hx).symm
  subst hxz
  obtain ⟨u, hu, hr⟩ := hcell j s hs
  have hj : j < d.size := by have := (List.getElem?_eq_some_iff.1 hu).1; simpa [hzs] using this
  have hlt := mem_lt (sz := d.size) (m := j + 1) hi (by omega) (by omega)
  refine ⟨u, ?_, hr⟩
  rw [List.getElem?_take, if_pos (by omega), hc _ (by omega), ← hu]
  congr 1
  rw [Nat.mul_comm, Nat.mul_add_mod]; exact Nat.mod_eq_of_lt hj

theorem made_get {z : Array Value} {k n : Nat} (hk : k < n) (hz : 0 < z.size) : (madeCells z n).toList[k]? = z.toList[k % z.size]? := by
  have hm : k % z.size < z.size := Nat.mod_lt _ hz
  simp [madeCells, hk, hm]
  try rw [Array.getElem!_eq_getD, Array.getD_eq_getD_getElem?]
  try simp [hm]

theorem makeX_sound {E : Env} (hE : EnvOk E) {ρ : Ren} {s : St} {a : Act} {w : World} (hR : R E ρ s a w) {t : TypeId} {x y : SV} {vx vy : Value} (hx : Rel E w (okB w ρ s.mem) ρ x vx) (hy : Rel E w (okB w ρ s.mem) ρ y vy) {dst : Option Tmp} {sv : SV} {s' : St} (h : makeX E.Ty t x y dst s = some (true, sv, s')) :
    OpDone E ρ s a w ((do pure (Next.value (← Instr.makeSlice t vx vy)) : Sem Next).run E.P w) sv s' := by
  unfold makeX at h
  split at h
  · rename_i e _ _ _ _ _ l c ht hl hc
    obtain ⟨u, hu, hD⟩ := (hE.ty _ _ ht).und
    obtain rfl : u = .slice e := by cases u <;> simp_all [DOk]
    obtain ⟨kl, rfl⟩ := natOf_eq hl
    obtain ⟨kc, rfl⟩ := natOf_eq hc
    obtain rfl := inv_int hx
    obtain rfl := inv_int hy
    cases hde : E.Ty e with
    | none => simp [hde] at h
    | some d =>
      simp only [hde] at h
      have hT := hE.ty _ _ hde
      cases hz : zeroData d with
      | none => simp [hz] at h
      | some z =>
        simp only [hz] at h
        cases hf : s.fresh dst (.row e (List.replicate l.toNat z)) with
        | none => simp [hf] at h
        | some p =>
          obtain ⟨id, s2⟩ := p
          simp [hf] at h
          obtain ⟨⟨⟨⟨h0, hlc⟩, hb⟩, h63⟩, rfl, rfl⟩ := h
          obtain ⟨i, zv, hi, his, hib, hiz, hzs, hok, hcl, hcell, hone⟩ := zeroData_sound hT hz w (fun b => okB w ρ s.mem b ∧ blkOf (.slice (some ⟨w.heap.size, 0, none⟩) l.toNat c.toNat) ≠ some b)
          have hrun := run_make (P := E.P) w t e i zv hu hi hiz kl kc l c h0 hlc (by rw [hib]; rw [Int.mul_comm]; omega) h63
          rw [his] at hrun
          have hlt : l.toNat * d.size ≤ c.toNat * d.size := Nat.mul_le_mul_right _ (by omega)
          have hRC := zeroRow hT hz w (fun b => okB w ρ s.mem b ∧ blkOf (.slice (some ⟨w.heap.size, 0, none⟩) l.toNat c.toNat) ≠ some b) l.toNat hzs hcell hok (madeCells zv.cells (c.toNat * d.size)).toList (by simp [size_madeCells]; exact hlt) (fun k hk => by
            have := made_get (z := zv.cells) (k := k) (n := c.toNat * d.size) (by omega) (by rw [hzs]; exact hT.pos)
            rw [this, hzs])
          have hcm := hR.newRow hE (m0 := s.mem) (fun _ _ x => x) (v := .slice (some ⟨w.heap.size, 0, none⟩) l.toNat c.toNat) (w' := w.alloc (.cells (madeCells zv.cells (c.toNat * d.size)) e)) hde (cells := (madeCells zv.cells (c.toNat * d.size)).toList.take (l.toNat * d.size)) (fun b hb => by simp [blkOf] at hb; omega) rfl rfl rfl (by simp) (fun b hb _ => Go.RowKit.Below.heap_alloc w _ b hb) ?_ ?_ hRC hf
          · exact OpDone.of (by rw [Sem.run_bind, hrun]; rfl) hcm
          · refine ⟨by simp [size_madeCells]; rw [Nat.min_eq_left (by omega)], .inr ⟨w.heap.size, c.toNat, madeCells zv.cells (c.toNat * d.size), (0, 0), by simp, hE.gn w hR.g, heap_alloc_new w _, .inl rfl, by simp; omega, by unfold maxLen; omega, by simp [size_madeCells], by simp⟩⟩
          · intro u hu
            have hu := List.mem_of_mem_take hu
            obtain ⟨j, hj⟩ := List.getElem?_of_mem hu
            have hjl : j < c.toNat * d.size := by have := (List.getElem?_eq_some_iff.1 hj).1; simpa [size_madeCells] using this
            rw [made_get hjl (by rw [hzs]; exact hT.pos)] at hj
            exact hone u (List.mem_of_getElem? hj)
  · simp at h
/-! ### x[lo:hi] -/
def HiP (vhi : Option Value) (len cap h : Nat) : Prop := match vhi with | none => h = len | some v => ∃ k n, v = .int k n ∧ 0 ≤ n ∧ n ≤ cap ∧ h = n.toNat
def LoP (vlo : Option Value) (h l : Nat) : Prop := match vlo with | none => l = 0 | some v => ∃ k n, v = .int k n ∧ 0 ≤ n ∧ n ≤ (h : Int) ∧ l = n.toNat
theorem run_sliceBounds {P : Program} {w : World} (isS : Bool) (len cap : Nat) (lo hi : Option Value) (l h : Nat) (hh : HiP hi len cap h) (hlo : LoP lo h l) :
    (Instr.sliceBounds isS len cap lo hi none).run P w = .ok (l, h, cap) w := by
  cases hi with
  | none =>
    simp only [HiP] at hh; subst hh
    cases lo with
    | none => simp only [LoP] at hlo; subst hlo; simp [Instr.sliceBounds]
    | some v =>
      obtain ⟨k, n, rfl, h0, h1, rfl⟩ := hlo
      simp [Instr.sliceBounds, Instr.sliceBound, asIntOf, h0, h1]
  | some v =>
    obtain ⟨k, n, rfl, h0, h1, rfl⟩ := hh
    cases lo with
    | none => simp only [LoP] at hlo; subst hlo; simp [Instr.sliceBounds, Instr.sliceBound, asIntOf, h0, h1]
    | some v' =>
      obtain ⟨k', n', rfl, h0', h1', rfl⟩ := hlo
      have : n' ≤ max n 0 := by rw [Int.max_eq_left h0]; omega
      simp [Instr.sliceBounds, Instr.sliceBound, asIntOf, h0, h1, h0', this]

theorem run_slice_str {P : Program} {w : World} {t : TypeId} (hu : P.underlying t = some .string) (s : ByteArray) (lo hi : Option Value) (l h : Nat) (hh : HiP hi s.size s.size h) (hlo : LoP lo h l) :
    (Instr.sliceAt t (.string s) lo hi none).run P w = .ok (.string (s.extract l h)) w := by
  have hb := run_sliceBounds (P := P) (w := w) false s.size s.size lo hi l h hh hlo
  simp [Instr.sliceAt, Instr.slice, run_underlying hu, hb]

theorem run_slice_row {E : Env} {w : World} {t e : TypeId} {d : TyD} (hu : E.P.underlying t = some (.slice e)) (hT : TyOk E.P e d) (A : Option Addr) (len cap : Nat) (lo hi : Option Value) (l h : Nat) (hh : HiP hi len cap h) (hlo : LoP lo h l) :
    (Instr.sliceAt t (.slice A len cap) lo hi none).run E.P w = .ok (.slice (if cap = l then A else A.map (·.add (l * d.size))) (h - l) (cap - l)) w := by
  have hb := run_sliceBounds (P := E.P) (w := w) true len cap lo hi l h hh hlo
  obtain ⟨i, z, hi, his, _⟩ := hT.info
  simp [Instr.sliceAt, Instr.slice, run_underlying hu, hb, Go.sizeOf, typeInfo, hi, his]

/-- A piece of a list that nobody writes. -/
theorem rep_cut {E : Env} (hE : EnvOk E) {w : World} {ok : Nat → Prop} {e : TypeId} {d : TyD} (hd : E.Ty e = some d) {xs : List SV} {A : Option Addr} {n c : Nat} (hr : Rep E w ok (.lst e xs) (.slice A n c)) {l h : Nat} (hlh : l ≤ h) (hh : h ≤ xs.length) :
    Rep E w ok (.lst e ((xs.take h).drop l)) (.slice (if c = l then A else A.map (·.add (l * d.size))) (h - l) (c - l)) := by
  obtain ⟨A', c', heq, hne⟩ := rep_lst hr
  cases heq
  have hlen : ((xs.take h).drop l).length = h - l := by simp; omega
  by_cases hz : h - l = 0
  · have : (xs.take h).drop l = [] := List.eq_nil_of_length_eq_zero (by omega)
    rw [this, hz]
    exact .lst0 _ _ _
  · have hx : xs ≠ [] := by intro e; subst e; simp at hh; omega
    obtain ⟨a, d', u, rfl, hd', hc, hm, hok, hEl, hcell, hrr⟩ := hne hx
    rw [hd] at hd'; cases hd'
    rw [if_neg (by omega)]
    have hget : ∀ i, i < h - l → ((xs.take h).drop l)[i]? = xs[l + i]? := fun i hi => by
      rw [List.getElem?_drop, List.getElem?_take, if_pos (by omega)]
    have hmem : ∀ x, x ∈ (xs.take h).drop l → x ∈ xs := fun x hx => List.mem_of_mem_take (List.mem_of_mem_drop hx)
    have := Rep.lst (E := E) (w := w) (ok := ok) e d ((xs.take h).drop l) (a.add (l * d.size)) (c - l) (fun i j => u (l + i) j) hd (by omega) (by omega) (by rw [add_block]; exact hok) (fun x hx => hEl x (hmem x hx))
      (fun i j hi hj => by
        rw [add_add]
        have := hcell (l + i) j (by omega) hj
        rw [Nat.add_mul, Nat.add_assoc] at this; exact this)
      (fun i j x s hxi hs => by
        have hi : i < h - l := by rw [← hlen]; exact (List.getElem?_eq_some_iff.1 hxi).1
        rw [hget i hi] at hxi
        exact hrr (l + i) j x s hxi hs)
    rw [hlen] at this
    exact this

theorem add_zero' (a : Addr) : a.add 0 = a := by simp [Addr.add]

/-- A row that is one's own no more is a list that nobody writes. -/
theorem rep_of_row {E : Env} (hE : EnvOk E) {ρ : Ren} {w : World} {m : Mem} (hm : MemOk E w ρ m) {id : Nat} {e : TypeId} {xs : List SV} (hg : m.get id = some (.row e xs)) {v : Value} (hv : ρ id = some v) : ∃ d, E.Ty e = some d ∧ Rep E w (okB w ρ (m.del id)) (.lst e xs) v ∧ ∃ A c, v = .slice A xs.length c ∧ xs.length ≤ c := by
  have hty : toData E.Ty [.slice e] [.row id] m = some ([.lst e xs], m.del id) := by simp [toData, hg, Nat.beq_refl]
  obtain ⟨_, _, _, hrep⟩ := toData_sound hE [.slice e] [.row id] m [.lst e xs] (m.del id) hty hm (fun b hb => (own_lt hm hb).1) [v] ⟨rfl, fun j s u hs hu => by
    cases j with
    | zero => simp at hs hu; subst hs; subst hu; exact .row id _ hv
    | succ j => simp at hs⟩
  obtain ⟨d, v', cells, hρ, hd2, hrow, hone, hRC⟩ := objRow (hm.obj id _ hg)
  rw [hv] at hρ; cases hρ
  refine ⟨d, hd2, hrep 0 _ _ rfl rfl, ?_⟩
  rcases hrow.2 with ⟨rfl, hl0⟩ | ⟨g, cap, cur, fr, rfl, _, _, _, hnc, _⟩
  · exact ⟨none, 0, by rw [hl0], by omega⟩
  · exact ⟨_, _, rfl, hnc⟩
/-- The two ends of a cut, told and meant. -/
theorem cut_ends {E : Env} {w : World} {ok : Nat → Prop} {ρ : Ren} {lo hi : Option SV} {vlo vhi : Option Value} (hlo : ∀ x, lo = some x → ∃ v, vlo = some v ∧ Rel E w ok ρ x v) (hlo0 : lo = none → vlo = none) (hhi : ∀ x, hi = some x → ∃ v, vhi = some v ∧ Rel E w ok ρ x v) (hhi0 : hi = none → vhi = none) {len cap : Nat} (hcap : len ≤ cap) {l h : Int}
    (hl : loEnd lo = some l) (hh : hiEnd hi len = some h) (hc : endsOk lo hi l h len = true) :
    HiP vhi len cap h.toNat ∧ LoP vlo h.toNat l.toNat ∧ l.toNat ≤ h.toNat ∧ h.toNat ≤ len ∧ 0 ≤ l ∧ 0 ≤ h := by
  simp only [endsOk, Bool.and_eq_true] at hc
  obtain ⟨c1, c2⟩ := hc
  cases hi with
  | none =>
    simp only [hiEnd, Option.some.injEq] at hh
    subst hh
    have e2 := hhi0 rfl; subst e2
    cases lo with
    | none => simp only [loEnd, Option.some.injEq] at hl; subst hl; have e1 := hlo0 rfl; subst e1; simp [HiP, LoP]
    | some x =>
      obtain ⟨k, rfl⟩ := natOf_eq hl
      obtain ⟨v, hv, hr⟩ := hlo _ rfl
      obtain rfl := inv_int hr
      simp at c2
      subst hv
      refine ⟨by simp [HiP], ⟨k, l, rfl, by omega, by omega, rfl⟩, by omega, by omega, by omega, by omega⟩
  | some y =>
    obtain ⟨k', rfl⟩ := natOf_eq hh
    obtain ⟨v', hv', hr'⟩ := hhi _ rfl
    obtain rfl := inv_int hr'
    simp at c1
    subst hv'
    cases lo with
    | none => simp only [loEnd, Option.some.injEq] at hl; subst hl; have e1 := hlo0 rfl; subst e1; refine ⟨⟨k', h, rfl, by omega, by omega, rfl⟩, by simp [LoP], by omega, by omega, by omega, by omega⟩
    | some x =>
      obtain ⟨k, rfl⟩ := natOf_eq hl
      obtain ⟨v, hv, hr⟩ := hlo _ rfl
      obtain rfl := inv_int hr
      simp at c2
      subst hv
      refine ⟨⟨k', h, rfl, by omega, by omega, rfl⟩, ⟨k, l, rfl, by omega, by omega, rfl⟩, by omega, by omega, by omega, by omega⟩

theorem sliceX_sound {E : Env} (hE : EnvOk E) {ρ : Ren} {s : St} {a : Act} {w : World} (hR : R E ρ s a w) {t : TypeId} {x : SV} {lo hi : Option SV} {vx : Value} {vlo vhi : Option Value} (hx : Rel E w (okB w ρ s.mem) ρ x vx)
    (hlo : ∀ x, lo = some x → ∃ v, vlo = some v ∧ Rel E w (okB w ρ s.mem) ρ x v) (hlo0 : lo = none → vlo = none) (hhi : ∀ x, hi = some x → ∃ v, vhi = some v ∧ Rel E w (okB w ρ s.mem) ρ x v) (hhi0 : hi = none → vhi = none) {dst : Option Tmp} {sv : SV} {s' : St} (h : sliceX E.Ty t x lo hi dst s = some (true, sv, s')) :
    OpDone E ρ s a w ((do pure (Next.value (← Instr.sliceAt t vx vlo vhi none)) : Sem Next).run E.P w) sv s' := by
  unfold sliceX at h
  split at h
  · -- a text
    rename_i ht
    obtain ⟨u, hu, hD⟩ := (hE.ty _ _ ht).und
    obtain rfl : u = .string := by cases u <;> simp_all [DOk]
    split at h
    · rename_i b
      obtain rfl := inv_str hx
      split at h
      · rename_i l hv hl hh
        simp only [Option.some.injEq, Prod.mk.injEq] at h
        obtain ⟨hc, rfl, rfl⟩ := h
        obtain ⟨e1, e2, _⟩ := cut_ends hlo hlo0 hhi hhi0 (cap := b.size) (Nat.le_refl _) hl hh hc
        exact OpDone.pure hR (rel_str _) (by rw [Sem.run_bind, run_slice_str hu b vlo vhi _ _ e1 e2]; rfl)
      · simp at h
    · simp at h
  · rename_i e _ _ _ _ _ ht
    obtain ⟨u, hu, hD⟩ := (hE.ty _ _ ht).und
    obtain rfl : u = .slice e := by cases u <;> simp_all [DOk]
    split at h
    · simp at h
    rename_i de hde
    split at h
    · -- a list
      rename_i e' xs
      simp only [cond_eq_ite] at h
      split at h
      · rename_i hee
        have hee := Nat.eq_of_beq_eq_true hee; subst hee
        split at h
        · rename_i l hv hl hh
          simp only [Option.some.injEq, Prod.mk.injEq] at h
          obtain ⟨hc, rfl, rfl⟩ := h
          have hrep := inv_lst hx
          obtain ⟨A, c, rfl, hne⟩ := rep_lst hrep
          by_cases hx0 : xs = []
          · subst hx0
            obtain ⟨e1, e2, e3, e4, _⟩ := cut_ends hlo hlo0 hhi hhi0 (len := ([] : List SV).length) (cap := c) (Nat.zero_le _) hl hh hc
            exact OpDone.pure hR (.data _ _ (rep_cut hE hde hrep e3 e4)) (by rw [Sem.run_bind, run_slice_row hu (hE.ty _ _ hde) A ([] : List SV).length c vlo vhi _ _ e1 e2]; rfl)
          · obtain ⟨ad, d, u', rfl, hd, hcc, _⟩ := hne hx0
            obtain ⟨e1, e2, e3, e4, _⟩ := cut_ends hlo hlo0 hhi hhi0 (cap := c) hcc hl hh hc
            exact OpDone.pure hR (.data _ _ (rep_cut hE hd hrep e3 e4)) (by rw [Sem.run_bind, run_slice_row hu (hE.ty _ _ hd) (some ad) xs.length c vlo vhi _ _ e1 e2]; rfl)
        · simp at h
      · simp at h
    · -- a row
      rename_i id
      cases hg : s.mem.get id with
      | none => simp [hg] at h
      | some o =>
        cases o with
        | box _ _ => simp [hg] at h
        | row e' xs =>
          simp only [hg, cond_eq_ite] at h
          split at h
          · rename_i hee
            have hee := Nat.eq_of_beq_eq_true hee; subst hee
            have hv := inv_row hx
            obtain ⟨d, hd, hrep, A, c, rfl, hcc⟩ := rep_of_row hE hR.mem hg hv
            have hT := hE.ty _ _ hd
            split at h
            · -- all of it
              · cases h
                have e1 := hlo0 rfl; have e2 := hhi0 rfl; subst e1; subst e2
                have hrun := run_slice_row (w := w) hu hT A xs.length c none none 0 xs.length rfl rfl
                refine OpDone.pure hR hx ?_
                rw [Sem.run_bind, hrun]
                have : (if c = 0 then A else A.map (·.add (0 * d.size))) = A := by
                  split
                  · rfl
                  · cases A <;> simp [add_zero']
                rw [this]; rfl
            · -- its beginning: it takes its place
              · rename_i v
                cases hn : natOf v with
                | none => simp [hn] at h
                | some n =>
                  simp only [hn] at h
                  cases hf : ({ s with mem := s.mem.del id } : St).fresh dst (.row e (xs.take n.toNat)) with
                  | none => simp [hf] at h
                  | some p =>
                    obtain ⟨id2, s2⟩ := p
                    simp [hf] at h
                    obtain ⟨⟨h0, h1⟩, rfl, rfl⟩ := h
                    have e1 := hlo0 rfl; subst e1
                    obtain ⟨v', e2, hr⟩ := hhi _ rfl; subst e2
                    obtain ⟨k, rfl⟩ := natOf_eq hn
                    obtain rfl := inv_int hr
                    have hrun := run_slice_row (w := w) hu hT A xs.length c none (some (.int k n)) 0 n.toNat ⟨k, n, rfl, h0, by omega, rfl⟩ rfl
                    have hA : (if c = 0 then A else A.map (·.add (0 * d.size))) = A := by
                      split
                      · rfl
                      · cases A <;> simp [add_zero']
                    rw [hA] at hrun
                    simp only [Nat.sub_zero] at hrun
                    obtain ⟨d2, v2, cells, hρ, hd2, hrow, hone, hRC⟩ := objRow (hR.mem.obj id _ hg)
                    rw [hv] at hρ; cases hρ
                    rw [hd] at hd2; cases hd2
                    have hsub : ∀ i o, (s.mem.del id).get i = some o → s.mem.get i = some o := fun i o hi => (Mem.get_del hi).2
                    have hln : (xs.take n.toNat).length = n.toNat := by simp; omega
                    have hnm : n.toNat * d.size ≤ xs.length * d.size := Nat.mul_le_mul_right _ (by omega)
                    have hown : ∀ b, blkOf (.slice A n.toNat c) = some b → own ρ s.mem b ∧ ¬ own ρ (s.mem.del id) b := fun b hb => by
                      have hb' : blkOf (.slice A xs.length c) = some b := by cases A <;> simp_all [blkOf]
                      refine ⟨⟨id, _, _, hg, hv, hb'⟩, fun q => ?_⟩
                      obtain ⟨i', o', v', hgi, hvi, hbi⟩ := q
                      obtain ⟨hne, hgi'⟩ := Mem.get_del hgi
                      exact hR.mem.sep id i' _ o' _ v' b hne hg hgi' hv hvi hb' hbi
                    have hcm := hR.newRow hE hsub (v := .slice A n.toNat c) (w' := w) hd (cells := cells.take (n.toNat * d.size)) (fun b hb => .inr (hown b hb)) rfl rfl rfl (Nat.le_refl _) (fun _ _ _ => rfl) ?_ (fun u hu => hone u (List.mem_of_mem_take hu)) ?_ hf
                    · exact OpDone.of (by rw [Sem.run_bind, hrun]; rfl) hcm
                    · rw [hln]
                      refine ⟨by rw [List.length_take, hrow.1]; omega, ?_⟩
                      rcases hrow.2 with ⟨heq, hl0⟩ | ⟨g, cap, cur, fr, heq, hng, hb, hf2, hnc, hcm, hcl, htk⟩
                      · injection heq with q1 q2 q3
                        subst q1; subst q3
                        exact .inl ⟨by rw [show n.toNat = 0 by omega], by omega⟩
                      · cases heq
                        exact .inr ⟨g, c, cur, fr, rfl, hng, hb, hf2, by omega, hcm, hcl, by rw [← htk, List.take_take, Nat.min_eq_left hnm]⟩
                    · refine ⟨fun x hx => hRC.1 x (List.mem_of_mem_take hx), fun i j x s' hxi hs => ?_⟩
                      have hi : i < n.toNat := by rw [← hln]; exact (List.getElem?_eq_some_iff.1 hxi).1
                      rw [List.getElem?_take, if_pos hi] at hxi
                      obtain ⟨u, hu, hr⟩ := hRC.2 i j x s' hxi hs
                      have hj : j < d.size := by
                        have := (List.getElem?_eq_some_iff.1 hs).1
                        rw [← tyCs_length (hRC.1 x (List.mem_of_getElem? hxi)).2, hT.cells] at this; exact this
                      have := mem_lt (sz := d.size) (m := j + 1) hi (by omega) (by omega)
                      exact ⟨u, by rw [List.getElem?_take, if_pos (by omega)]; exact hu, hr.frame (fun _ _ => rfl) (fun b hb => ⟨⟨hb.1, fun q => hb.2 (q.imp (own_sub hsub) (fun x => x))⟩, fun e => hb.2 (.inl (hown b e).1)⟩)⟩
            · -- a piece of it: it is nobody's any more
              split at h
              · rename_i l hv2 hl hh
                simp only [Option.some.injEq, Prod.mk.injEq] at h
                obtain ⟨hc, rfl, rfl⟩ := h
                obtain ⟨e1, e2, e3, e4, _⟩ := cut_ends hlo hlo0 hhi hhi0 (cap := c) hcc hl hh hc
                have hsub : ∀ i o, (s.mem.del id).get i = some o → s.mem.get i = some o := fun i o hi => (Mem.get_del hi).2
                refine OpDone.of (v := .slice (if c = l.toNat then A else A.map (·.add (l.toNat * d.size))) (hv2.toNat - l.toNat) (c - l.toNat)) (ρ' := ρ) (w' := w) (by rw [Sem.run_bind, run_slice_row hu hT A xs.length c vlo vhi _ _ e1 e2]; rfl)
                  ⟨hR.less hE hsub, .data _ _ (rep_cut hE hd hrep e3 e4), fun _ _ x => x, Kept.refl _ _, fun b hb => .inl (own_sub hsub hb), fun _ x => x⟩
              · simp at h
          · simp at h
    · simp at h
  · simp at h
end Sx
