/- The abstract machine: immutable data, the call's own objects, a small code, and its interpreter. From a loaded function's code to the abstract machine's: sizes and offsets are read off the program's table; where a round's slots end, what becomes a row of one's own and how a call is made are hints: nothing hangs on them. How the abstract machine's data and objects lie in the model's memory. What a change of memory leaves of the abstract machine's relation. What the model's small operations answer, in the words of the abstract machine: cells read, laid, built. Views: what is read of the call's own objects as data; rows that are frozen. Each operation of the abstract machine is the model's. Each operation of the abstract machine is the model's, 2: numbers, comparisons, addresses. Each operation of the abstract machine is the model's, 3: indexes, slices, lengths. Each operation of the abstract machine is the model's, 4: slices of slices, '==' of structs, least and greatest. Each operation of the abstract machine is the model's, 5: structs and slices built, cells written. -/
import Derived.Calls
import Derived.RowKit3
import Derived.Laws.Cells
import Derived.Laws.CopyRow
import Derived.Laws.AppendOwn
import Derived.Laws.StructEq
set_option linter.unusedVariables false
namespace Go.Proofs.Am
open Go

/-- Immutable data: a slice carries its elements (each a list of cells), a pointer the cells that it points into. -/
inductive D where
  | int (k : IntKind) (n : Int)
  | bool (b : Bool)
  | str (s : ByteArray)
  | flt (k : FloatKind) (bits : Nat)
  | cpx (k : FloatKind) (re im : Nat)
  | agg (cells : List D)
  | sl (elems : List (List D))
  | ptr (cells : List D) (off : Nat)
  | fn (f : Nat) (caps : List D)
  | nilp
  | nilf
  | nilif
  | iface (t : Nat) (d : D)
  deriving Inhabited

/-- What a slot or a variable holds: data, or a reference to an object of the call's own. -/
inductive V where
  | d (x : D)
  | nsl
  | agg (cells : List V)
  | ref (o ver i j : Nat)
  | own (o ver : Nat)
  | osl (o ver off len : Nat)
  | fn (f : Nat) (caps : List V)
  | tup (vs : List V)
  | undef
  | dead
  deriving Inhabited

/-- An object: a variable in memory, or a row that is being made. -/
inductive Obj where
  | box (cells : List V)
  | row (ver : Nat) (frz : Bool) (esz : Nat) (elems : List (List D))
  deriving Inhabited

def upd {α : Type} (f : Nat → α) (n : Nat) (a : α) : Nat → α := fun m => if m = n then a else f m
theorem upd_eq {α : Type} (f : Nat → α) (n : Nat) (a : α) : upd f n a n = a := by simp [upd]
theorem upd_ne {α : Type} (f : Nat → α) {n m : Nat} (a : α) (h : m ≠ n) : upd f n a m = f m := by simp [upd, h]
theorem upd_comm {α : Type} (f : Nat → α) {n m : Nat} (a b : α) (h : n ≠ m) : upd (upd f n a) m b = upd (upd f m b) n a := by
  funext x; simp only [upd]; split <;> split <;> simp_all

abbrev Heap := Nat → Option Obj

/-- m: how many objects came in -/
structure St where
  sl : Nat → V
  ob : Heap
  nx : Nat
  m : Nat

def updAll (ob : Heap) : List (Nat × Obj) → Heap
  | [] => ob
  | (o, x) :: r => updAll (upd ob o (some x)) r

def mapO {α β : Type} (f : α → Option β) : List α → Option (List β)
  | [] => some []
  | a :: r => (f a).bind fun b => (mapO f r).bind fun l => some (b :: l)

/-! ### References, reach, views -/
mutual
def refsV : V → List Nat
  | .ref o _ _ _ => [o]
  | .own o _ => [o]
  | .osl o _ _ _ => [o]
  | .agg cs => refsL cs
  | .fn _ cs => refsL cs
  | .tup cs => refsL cs
  | .d _ => []
  | .nsl => []
  | .undef => []
  | .dead => []
def refsL : List V → List Nat
  | [] => []
  | v :: r => refsV v ++ refsL r
end

def refsO : Option Obj → List Nat
  | some (.box cells) => refsL cells
  | _ => []

/-- All objects that are reached, in the order in which they are met. -/
def reach (ob : Heap) : Nat → List Nat → List Nat → List Nat
  | 0, seen, _ => seen
  | _ + 1, seen, [] => seen
  | n + 1, seen, o :: todo => if seen.contains o then reach ob n seen todo else reach ob n (seen ++ [o]) (refsO (ob o) ++ todo)

def rowPart (elems : List (List D)) (off len : Nat) : List (List D) := (elems.drop off).take len

/-- What a value reads as, as data; n: how deep variables are followed. -/
def view (ob : Heap) : Nat → V → Option D
  | 0, _ => none
  | n + 1, .d x => some x
  | n + 1, .nsl => some (.sl [])
  | n + 1, .own o ver => match ob o with
    | some (.row v _ _ elems) => if ver = v then some (.sl elems) else none
    | _ => none
  | n + 1, .osl o ver off len => match ob o with
    | some (.row v _ _ elems) => if ver = v ∧ off + len ≤ elems.length then some (.sl (rowPart elems off len)) else none
    | _ => none
  | n + 1, .ref o ver i j => match ob o with
    | some (.box cells) => if i = 0 then (mapO (view ob n) cells).map fun l => .ptr l j else none
    | _ => none
  | n + 1, .fn f caps => (mapO (view ob n) caps).map fun l => .fn f l
  | n + 1, .agg cells => (mapO (view ob n) cells).map fun l => .agg l
  | _ + 1, _ => none

def deep : Nat := 8

def toV : D → V
  | .agg cells => .agg (cells.map .d)
  | x => .d x

/-- a value as a pure one: data alone in it -/
def pureV (ob : Heap) : V → Option V
  | .tup vs => (mapO (fun v => (view ob deep v).map toV) vs).map .tup
  | v => (view ob deep v).map toV

mutual
/-- no address in it -/
def scalarD : D → Bool
  | .int _ _ | .bool _ | .str _ | .flt _ _ | .cpx _ _ _ | .nilp | .nilf | .nilif => true
  | .agg cs => scalarDs cs
  | .sl _ => false
  | .ptr _ _ => false
  | .fn _ _ => false
  | .iface _ d => scalarD d
def scalarDs : List D → Bool
  | [] => true
  | d :: r => scalarD d && scalarDs r
end
mutual
def scalarV : V → Bool
  | .d x => scalarD x
  | .agg cs => scalarVs cs
  | .tup cs => scalarVs cs
  | .nsl | .undef | .dead => true
  | _ => false
def scalarVs : List V → Bool
  | [] => true
  | v :: r => scalarV v && scalarVs r
end

def freezeO : Obj → Obj
  | .row v _ s e => .row v true s e
  | o => o

/-- the rows among some objects, frozen; a variable that is reached: none -/
def freezes (ob : Heap) : List Nat → Option (List (Nat × Obj))
  | [] => some []
  | o :: r => match ob o with
    | some (.row v _ s e) => (freezes ob r).map fun l => (o, .row v true s e) :: l
    | _ => none

/-- cells to be laid into a row: data; what they hold of rows is frozen -/
def rowCells (ob : Heap) (vs : List V) : Option (List D × List (Nat × Obj)) :=
  (mapO (view ob deep) vs).bind fun ds => (freezes ob (refsL vs)).map fun fs => (ds, fs)

/-! ### The code -/
inductive X where
  | t (n : Nat)
  | c (v : V)
  deriving Inhabited

inductive Mode where
  | pure
  | byref
  deriving DecidableEq, Inhabited

inductive Cv where
  | toInt (k : IntKind)
  | toFlt (k : FloatKind)
  | same
  deriving Inhabited

/-- the kinds of cells that '==' compares -/
inductive LK where
  | int | bool | str
  deriving DecidableEq, Inhabited

inductive AOp where
  | mov (x : X)
  | pick (c a b : X)
  | box (n : Nat) (x : X)
  | alloc (cells : List V)
  | build (zero : List V) (parts : List (Nat × Nat × X))
  | bslice (esz n : Nat) (zero : List D) (parts : List (Nat × X))
  | load (agg : Bool) (n : Nat) (a : X)
  | store (n : Nat) (a x : X)
  | nilchk (x : X)
  | bin (op : BinOp) (x y : X)
  | beq (ne : Bool) (x y : X)
  | aeq (ne : Bool) (ls : List (Nat × LK)) (x y : X)
  | un (op : UnOp) (x : X)
  | conv (c : Cv) (x : X)
  | mkfn (f : Nat) (caps : List X)
  | mksl (esz bytes : Nat) (zero : List D) (len cap : X)
  | slice (esz : Nat) (x : X) (lo hi : Option X)
  | sslice (x : X) (lo hi : Option X)
  | fa (off : Nat) (x : X)
  | ia (esz : Nat) (x i : X)
  | iaa (n esz : Nat) (x i : X)
  | idxs (x i : X)
  | idxa (n esz : Nat) (agg : Bool) (x i : X)
  | fld (agg : Bool) (off n : Nat) (x : X)
  | len (x : X)
  | slen (x : X)
  | lenc (n : Nat)
  | append (esz bytes : Nat) (s x : X)
  | copy (esz : Nat) (d s : X)
  | minmax (mx : Bool) (xs : List X)
  | reim (im : Bool) (x : X)
  | mkcpx (x y : X)
  | call (m : Mode) (f : Nat) (args : List X)
  | callv (m : Mode) (f : X) (args : List X)
  | ext (i : Nat) (x : X)
  | none
  deriving Inhabited

structure AOper where
  dst : Option Nat
  op : AOp
  guard : Option (Nat × Bool)
  deriving Inhabited

/-- where a nil slice becomes a row of the call's own at a loop's head -/
inductive OwnAt where
  | slot (s esz : Nat)
  | cell (s j esz : Nat)
  deriving Inhabited

inductive ACode where
  | skip
  | reg (ops : List AOper) (chk : List (Nat × Nat))
  | seq (a b : ACode)
  | cond (c : X) (a b : ACode)
  | block (id : Nat) (a : ACode)
  | loop (own : List OwnAt) (live : List Nat) (a : ACode)
  | exit (id : Nat)
  | ret
  | scope (a : ACode)
  deriving Inhabited

inductive RV where
  | slot (s : Nat)
  | cell (s n : Nat) (agg : Bool)
  deriving Inhabited

structure AFunc where
  results : List RV
  body : ACode
  deriving Inhabited

inductive Ex where
  | normal
  | exit (id : Nat)
  | ret
  deriving Inhabited

/-- A call in the callee's own words: arguments, the objects that they reach (numbered from 0 on); the answer, these objects behind it, and new ones. -/
abbrev CallT := Nat → List V → List Obj → Option (V × List Obj × List Obj)

/-! ### Operations on data -/
def binInt (op : BinOp) (k : IntKind) (a b : Int) : Option D :=
  match op with
  | .add => some (.int k (k.wrap (a + b)))
  | .sub => some (.int k (k.wrap (a - b)))
  | .mul => some (.int k (k.wrap (a * b)))
  | .quo => if b = 0 then none else some (.int k (k.wrap (a.tdiv b)))
  | .rem => if b = 0 then none else some (.int k (a.tmod b))
  | .and => some (.int k (k.wrap (BitVec.ofInt k.bits a &&& BitVec.ofInt k.bits b).toNat))
  | .or => some (.int k (k.wrap (BitVec.ofInt k.bits a ||| BitVec.ofInt k.bits b).toNat))
  | .xor => some (.int k (k.wrap (BitVec.ofInt k.bits a ^^^ BitVec.ofInt k.bits b).toNat))
  | .andNot => some (.int k (k.wrap (BitVec.ofInt k.bits a &&& ~~~ BitVec.ofInt k.bits b).toNat))
  | .eql => some (.bool (a == b))
  | .neq => some (.bool (a != b))
  | .lss => some (.bool (decide (a < b)))
  | .leq => some (.bool (decide (a ≤ b)))
  | .gtr => some (.bool (decide (a > b)))
  | .geq => some (.bool (decide (a ≥ b)))
  | _ => none

def shiftInt (op : BinOp) (k : IntKind) (a b : Int) : Option D :=
  if b < 0 then none else
  match op with
  | .shl => some (.int k (k.wrap (a * 2 ^ min b.toNat k.bits)))
  | .shr => some (.int k (a.fdiv (2 ^ min b.toNat k.bits)))
  | _ => none

def binFlt (op : BinOp) (k : FloatKind) (a b : Nat) : Option D :=
  match op with
  | .add => (k.format.add a b).map (.flt k)
  | .sub => (k.format.sub a b).map (.flt k)
  | .mul => (k.format.mul a b).map (.flt k)
  | .quo => (k.format.div a b).map (.flt k)
  | .eql => some (.bool (k.format.order a b == some .eq))
  | .neq => some (.bool (k.format.order a b != some .eq))
  | .lss => some (.bool (k.format.order a b == some .lt))
  | .leq => some (.bool (k.format.order a b == some .lt || k.format.order a b == some .eq))
  | .gtr => some (.bool (k.format.order a b == some .gt))
  | .geq => some (.bool (k.format.order a b == some .gt || k.format.order a b == some .eq))
  | _ => none

def binStr (op : BinOp) (a b : ByteArray) : Option D :=
  match op with
  | .add => if a.size + b.size ≤ 140737488355328 then some (.str (a ++ b)) else none
  | .eql => some (.bool (a.toList == b.toList))
  | .neq => some (.bool (!(a.toList == b.toList)))
  | .lss => some (.bool (Op.bytesLess a.toList b.toList))
  | .leq => some (.bool (Op.bytesLess a.toList b.toList || a.toList == b.toList))
  | .gtr => some (.bool (!(Op.bytesLess a.toList b.toList || a.toList == b.toList)))
  | .geq => some (.bool (!Op.bytesLess a.toList b.toList))
  | _ => none

def eqLeaf (k : LK) (x y : V) : Option Bool :=
  match k, x, y with
  | .int, .d (.int k a), .d (.int k' b) => if k = k' then some (a == b) else none
  | .bool, .d (.bool a), .d (.bool b) => some (a == b)
  | .str, .d (.str a), .d (.str b) => some (a.toList == b.toList)
  | _, _, _ => none

/-- '==' of two structs, cell by cell -/
def eqLeaves : List (Nat × LK) → List V → List V → Option Bool
  | [], _, _ => some true
  | (o, k) :: r, xs, ys => (xs[o]?).bind fun x => (ys[o]?).bind fun y => (eqLeaf k x y).bind fun b => (eqLeaves r xs ys).bind fun c => some (b && c)

def binD (op : BinOp) (x y : D) : Option D :=
  match x, y with
  | .int k a, .int k' b =>
    match op with
    | .shl | .shr => shiftInt op k a b
    | _ => if k = k' then binInt op k a b else none
  | .str a, .str b => binStr op a b
  | .flt k a, .flt k' b => if k = k' then binFlt op k a b else none
  | .cpx k a b, .cpx k' c d => if k = k' then
      match op with
      | .add => (k.format.add a c).bind fun r => (k.format.add b d).map fun i => .cpx k r i
      | .sub => (k.format.sub a c).bind fun r => (k.format.sub b d).map fun i => .cpx k r i
      | _ => none
    else none
  | _, _ => none

def unD (op : UnOp) (x : D) : Option D :=
  match op, x with
  | .neg, .int k n => some (.int k (k.wrap (0 - n)))
  | .xor, .int k n => binInt .xor k (if k.signed then -1 else k.max) n
  | .not, .bool b => some (.bool (!b))
  | _, _ => none

def convD (c : Cv) (x : D) : Option D :=
  match c, x with
  | .toInt k, .int _ n => some (.int k (k.wrap n))
  | .toInt k, .flt s b => match (s.decode b).toInt .zero with
    | some n => if k.min ≤ n ∧ n ≤ k.max then some (.int k n) else none
    | none => none
  | .toFlt k, .int _ n => some (.flt k (k.nearest n))
  | .same, .str s => some (.str s)
  | _, _ => none

def pickV (c : Bool) (a b : V) : V :=
  match a, b with
  | .d (.bool x), .d (.bool y) => .d (.bool (bif c then x else y))
  | a, b => if c then a else b

/-! ### Cells -/
def cellsOf : V → Option (List V)
  | .agg cs => some cs
  | .tup _ => none
  | .undef => none
  | .dead => none
  | v => some [v]

/-- a value of one cell? -/
def one1 : V → Bool
  | .agg _ => false
  | .tup _ => false
  | .undef => false
  | .dead => false
  | _ => true

def loadFrom (agg : Bool) (n : Nat) (cells : List V) : Option V :=
  if cells.length = n then (if agg then some (.agg cells) else match cells with | [v] => some v | _ => none) else none

def part {α : Type} (cells : List α) (off n : Nat) : List α := (cells.drop off).take n

def setCells {α : Type} (cells : List α) (off : Nat) : List α → List α
  | [] => cells
  | v :: r => setCells (cells.set off v) (off + 1) r

def buildOn (zero : List V) : List (Nat × Nat × V) → Option (List V)
  | [] => some zero
  | (off, n, v) :: r => (cellsOf v).bind fun cs => if cs.length = n ∧ off + n ≤ zero.length then buildOn (setCells zero off cs) r else none

def asIdx : V → Option Int
  | .d (.int _ n) => some n
  | _ => none

/-- a bound of a slice expression -/
def bnd (ρ : X → V) (o : Option X) (d : Int) : Option Int := match o with
  | none => some d
  | some y => asIdx (ρ y)

def bytesD (s : ByteArray) : List (List D) := s.data.toList.map fun b => [.int .u8 b.toNat]

/-- the elements of a slice (or string) that is read -/
def elemsOf (ob : Heap) : V → Option (List (List D))
  | .nsl => some []
  | .d (.sl e) => some e
  | .d (.str s) => some (bytesD s)
  | .own o ver => match ob o with
    | some (.row v _ _ e) => if ver = v then some e else none
    | _ => none
  | .osl o ver off len => match ob o with
    | some (.row v _ _ e) => if ver = v ∧ off + len ≤ e.length then some (rowPart e off len) else none
    | _ => none
  | _ => none

/-- does a reference lead to what it led to? -/
def liveRef (ob : Heap) (o ver : Nat) : Bool :=
  match ob o with
  | some (.box _) => true
  | some (.row v _ _ _) => ver == v
  | none => false

def liveRow (ob : Heap) (o ver esz : Nat) : Bool :=
  match ob o with
  | some (.row v _ s _) => ver == v && s == esz
  | _ => false

def lenOK (esz : Nat) : Option (List D) → Bool
  | some c => c.length == esz
  | none => true

/-! ### Calls -/
def idxOf (ids : List Nat) (o : Nat) : Nat := match ids with
  | [] => 0
  | x :: r => if x = o then 0 else idxOf r o + 1

mutual
def renV (f : Nat → Nat) : V → V
  | .ref o v i j => .ref (f o) v i j
  | .own o v => .own (f o) v
  | .osl o v a b => .osl (f o) v a b
  | .agg cs => .agg (renL f cs)
  | .fn g cs => .fn g (renL f cs)
  | .tup cs => .tup (renL f cs)
  | .d x => .d x
  | .nsl => .nsl
  | .undef => .undef
  | .dead => .dead
def renL (f : Nat → Nat) : List V → List V
  | [] => []
  | v :: r => renV f v :: renL f r
end
def renO (f : Nat → Nat) : Obj → Obj
  | .box cells => .box (renL f cells)
  | o => o

/-- ids in the caller of a callee's objects: those that were handed over, and new ones from 'id' on -/
def backId (ids : List Nat) (id : Nat) (o : Nat) : Nat := if o < ids.length then ids.getD o 0 else id + (o - ids.length)

def enumUpd (ids : List Nat) (objs : List Obj) : List (Nat × Obj) := ids.zip objs
def newUpd : Nat → List Obj → List (Nat × Obj)
  | _, [] => []
  | id, o :: r => (id, o) :: newUpd (id + 1) r

def bound : Nat := 64

/-- all that is reached is among some objects -/
def closed (ob : Heap) (ids roots : List Nat) : Bool := ids.all (fun o => (refsO (ob o)).all ids.contains) && roots.all ids.contains

def doCall (call : CallT) (ob : Heap) (id : Nat) (m : Mode) (f : Nat) (args : List V) : Option (V × List (Nat × Obj)) :=
  match m with
  | .pure =>
    (mapO (pureV ob) args).bind fun as => (call f as []).bind fun r =>
      if r.2.2.isEmpty = false then none else if scalarV r.1 || (refsL args).isEmpty then some (r.1, [])
      else
        let ids := reach ob 100 [] (refsL args)
        if (refsL args).all ids.contains then (freezes ob ids).map fun fs => (r.1, fs) else none
  | .byref =>
    let ids := reach ob 100 [] (refsL args)
    if closed ob ids (refsL args) = false then none else
    (mapO ob ids).bind fun objs =>
      (call f (renL (idxOf ids) args) (objs.map (renO (idxOf ids)))).bind fun r =>
        if r.2.1.length = ids.length ∧ r.2.2.length ≤ bound then
          some (renV (backId ids id) r.1, enumUpd ids (r.2.1.map (renO (backId ids id))) ++ newUpd id (r.2.2.map (renO (backId ids id))))
        else none

/-! ### One operation: its answer, and the objects that it lays anew -/
def opEval (call : CallT) (ρ : X → V) (ob : Heap) (id : Nat) : AOp → Option (V × List (Nat × Obj))
  | .mov x => some (ρ x, [])
  | .pick c a b => match ρ c with
    | .d (.bool t) => some (pickV t (ρ a) (ρ b), [])
    | _ => none
  | .box n x => (cellsOf (ρ x)).bind fun cs => if cs.length = n then some (.ref id 0 0 0, [(id, .box cs)]) else none
  | .alloc cells => some (.ref id 0 0 0, [(id, .box cells)])
  | .build zero parts => (buildOn zero (parts.map fun p => (p.1, p.2.1, ρ p.2.2))).map fun cs => (.agg cs, [])
  | .bslice esz n zero parts =>
    (mapO (fun (p : Nat × X) => (cellsOf (ρ p.2)).bind fun cs => if p.1 < n ∧ cs.length = esz then (rowCells ob cs).map fun r => (p.1, r) else none) parts).map fun l =>
      (.own id 0, (l.flatMap fun p => p.2.2) ++ [(id, .row 0 false esz (l.foldl (fun e p => e.set p.1 p.2.1) (List.replicate n zero)))])
  | .load agg n a => match ρ a with
    | .d (.ptr cells j) => (loadFrom agg n (part (cells.map .d) j n)).map fun v => (v, [])
    | .ref o ver i j => match ob o with
      | some (.box cells) => if i = 0 then (loadFrom agg n (part cells j n)).map fun v => (v, []) else none
      | some (.row v _ _ elems) => if ver = v then (elems[i]?).bind fun e => (loadFrom agg n ((part e j n).map .d)).map fun v => (v, []) else none
      | none => none
    | _ => none
  | .store n a x => match ρ a with
    | .ref o ver i j => match ob o with
      | some (.box cells) => (cellsOf (ρ x)).bind fun cs => if i = 0 ∧ cs.length = n ∧ j + n ≤ cells.length then some (.undef, [(o, .box (setCells cells j cs))]) else none
      | some (.row v false esz elems) => (cellsOf (ρ x)).bind fun cs => if ver = v ∧ cs.length = n ∧ j + n ≤ esz then
          (elems[i]?).bind fun e => (rowCells ob cs).bind fun r =>
            if (r.2.map (·.1)).contains o then none else some (.undef, r.2 ++ [(o, .row v false esz (elems.set i (setCells e j r.1)))])
        else none
      | _ => none
    | _ => none
  | .nilchk x => match ρ x with
    | .ref o ver i j => if liveRef ob o ver then some (.ref o ver i j, []) else none
    | .d (.ptr c j) => some (.d (.ptr c j), [])
    | .fn f c => some (.fn f c, [])
    | .d (.fn f c) => some (.d (.fn f c), [])
    | _ => none
  | .bin op x y => match ρ x, ρ y with
    | .d a, .d b => (binD op a b).map fun v => (.d v, [])
    | _, _ => none
  | .beq ne x y => match ρ x, ρ y with
    | .d (.bool a), .d (.bool b) => some (.d (.bool (if ne then !(a == b) else a == b)), [])
    | _, _ => none
  | .aeq ne ls x y => match ρ x, ρ y with
    | .agg a, .agg b => (eqLeaves ls a b).map fun r => (.d (.bool (if ne then !r else r)), [])
    | _, _ => none
  | .un op x => match ρ x with
    | .d a => (unD op a).map fun v => (.d v, [])
    | _ => none
  | .conv c x => match ρ x with
    | .d a => (convD c a).map fun v => (.d v, [])
    | _ => none
  | .mkfn f caps => if (caps.map ρ).all one1 then some (.fn f (caps.map ρ), []) else none
  | .mksl esz bytes zero len cap => match ρ len, ρ cap with
    | .d (.int _ l), .d (.int _ c) => if 0 ≤ l ∧ l ≤ c ∧ c * bytes ≤ 140737488355328 then some (.own id 0, [(id, .row 0 false esz (List.replicate l.toNat zero))]) else none
    | _, _ => none
  | .slice esz x lo hi =>
    (bnd ρ lo 0).bind fun l =>
    match ρ x with
    | .d (.sl e) => (bnd ρ hi e.length).bind fun h =>
      if 0 ≤ l ∧ l ≤ h ∧ h ≤ e.length ∧ lenOK esz (e[l.toNat]?) = true then some (.d (.sl (rowPart e l.toNat (h.toNat - l.toNat))), []) else none
    | .nsl => (bnd ρ hi 0).bind fun h =>
      if l = 0 ∧ h = 0 then some (.nsl, []) else none
    | .own o ver => match ob o with
      | some (.row v _ sz e) => (bnd ρ hi e.length).bind fun h =>
        if ver = v ∧ sz = esz ∧ 0 ≤ l ∧ l ≤ h ∧ h ≤ e.length then some (.osl o ver l.toNat (h.toNat - l.toNat), []) else none
      | _ => none
    | .osl o ver off len => (bnd ρ hi len).bind fun h =>
      if liveRow ob o ver esz = true ∧ 0 ≤ l ∧ l ≤ h ∧ h ≤ len then some (.osl o ver (off + l.toNat) (h.toNat - l.toNat), []) else none
    | _ => none
  | .sslice x lo hi =>
    (bnd ρ lo 0).bind fun l =>
    match ρ x with
    | .d (.str s) => (bnd ρ hi s.size).bind fun h =>
      if 0 ≤ l ∧ l ≤ h ∧ h ≤ s.size then some (.d (.str (s.extract l.toNat h.toNat)), []) else none
    | _ => none
  | .fa off x => match ρ x with
    | .ref o ver i j => if liveRef ob o ver then some (.ref o ver i (j + off), []) else none
    | .d (.ptr c j) => some (.d (.ptr c (j + off)), [])
    | _ => none
  | .ia esz x i => match asIdx (ρ i) with
    | none => none
    | some k => match ρ x with
      | .d (.sl e) => if 0 ≤ k then (e[k.toNat]?).bind fun c => if c.length = esz then some (.d (.ptr c 0), []) else none else none
      | .own o ver => match ob o with
        | some (.row v _ sz e) => if ver = v ∧ sz = esz ∧ 0 ≤ k ∧ k < e.length then some (.ref o ver k.toNat 0, []) else none
        | _ => none
      | .osl o ver off len => match ob o with
        | some (.row v _ sz e) => if ver = v ∧ sz = esz ∧ 0 ≤ k ∧ k < len ∧ off + len ≤ e.length then some (.ref o ver (off + k.toNat) 0, []) else none
        | _ => none
      | _ => none
  | .iaa n esz x i => match asIdx (ρ i) with
    | none => none
    | some k => if 0 ≤ k ∧ k < n then (match ρ x with
      | .ref o ver i j => if liveRef ob o ver then some (.ref o ver i (j + k.toNat * esz), []) else none
      | .d (.ptr c j) => some (.d (.ptr c (j + k.toNat * esz)), [])
      | _ => none) else none
  | .idxs x i => match ρ x, asIdx (ρ i) with
    | .d (.str s), some k => if 0 ≤ k then (s.data.toList[k.toNat]?).map fun b => (.d (.int .u8 b.toNat), []) else none
    | _, _ => none
  | .idxa n esz agg x i => match ρ x, asIdx (ρ i) with
    | .agg cells, some k => if 0 ≤ k ∧ k < n then (loadFrom agg esz (part cells (k.toNat * esz) esz)).map fun v => (v, []) else none
    | _, _ => none
  | .fld agg off n x => match ρ x with
    | .agg cells => (loadFrom agg n (part cells off n)).map fun v => (v, [])
    | _ => none
  | .len x => match ρ x with
    | .d (.str _) => none
    | v => (elemsOf ob v).map fun e => (.d (.int .i64 e.length), [])
  | .slen x => match ρ x with
    | .d (.str s) => some (.d (.int .i64 s.size), [])
    | _ => none
  | .lenc n => some (.d (.int .i64 n), [])
  | .append esz bytes s x => (elemsOf ob (ρ x)).bind fun new => if (new.all fun c => c.length == esz) = false then none else match ρ s with
    | .nsl => if new.length * bytes ≤ 140737488355328 then (if new.isEmpty then some (.nsl, []) else some (.own id 0, [(id, .row 0 false esz new)])) else none
    | .own o ver => match ob o with
      | some (.row v false sz e) => if ver = v ∧ sz = esz ∧ (e.length + new.length) * bytes ≤ 140737488355328 then some (.own o (v + 1), [(o, .row (v + 1) false esz (e ++ new))]) else none
      | _ => none
    | _ => none
  | .copy esz d s => (elemsOf ob (ρ s)).bind fun src => if (src.all fun c => c.length == esz) = false then none else match ρ d with
    | .own o ver => match ob o with
      | some (.row v false sz e) => if ver = v ∧ sz = esz then some (.d (.int .i64 (min src.length e.length : Nat)), [(o, .row v false sz (src.take e.length ++ e.drop src.length))]) else none
      | _ => none
    | _ => none
  | .minmax mx xs => match xs.map ρ with
    | [.d (.int k a), .d (.int _ b)] => some (.d (.int k (if mx then (if b > a then b else a) else (if b < a then b else a))), [])
    | [.d (.int k a), .d (.int _ b), .d (.int _ c)] =>
      some (.d (.int k (if mx then (let m := if b > a then b else a; if c > m then c else m) else (let m := if b < a then b else a; if c < m then c else m))), [])
    | _ => none
  | .reim im x => match ρ x with
    | .d (.cpx k a b) => some (.d (.flt k (if im then b else a)), [])
    | _ => none
  | .mkcpx x y => match ρ x, ρ y with
    | .d (.flt k a), .d (.flt k' b) => if k = k' then some (.d (.cpx k a b), []) else none
    | _, _ => none
  | .call m f args => doCall call ob id m f (args.map ρ)
  | .callv m f args => match ρ f with
    | .fn g caps => doCall call ob id m g (args.map ρ ++ caps)
    | .d (.fn g caps) => doCall call ob id m g (args.map ρ ++ caps.map .d)
    | _ => none
  | .ext i x => match ρ x with
    | .tup vs => (vs[i]?).map fun v => (v, [])
    | _ => none
  | .none => none

def St.val (s : St) : X → V
  | .t n => s.sl n
  | .c v => v

def St.put (s : St) (dst : Option Nat) (v : V) : St :=
  match dst with
  | some d => { s with sl := upd s.sl d v }
  | none => s

/-! ### Which operations may change places -/
/-- an operation's operands -/
def xsOf : AOp → List X
  | .mov x => [x]
  | .pick c a b => [c, a, b]
  | .box _ x => [x]
  | .alloc _ => []
  | .build _ parts => parts.map fun p => p.2.2
  | .bslice _ _ _ parts => parts.map fun p => p.2
  | .load _ _ a => [a]
  | .store _ a x => [a, x]
  | .nilchk x => [x]
  | .bin _ x y => [x, y]
  | .beq _ x y => [x, y]
  | .aeq _ _ x y => [x, y]
  | .un _ x => [x]
  | .conv _ x => [x]
  | .mkfn _ caps => caps
  | .mksl _ _ _ len cap => [len, cap]
  | .slice _ x lo hi => x :: (lo.toList ++ hi.toList)
  | .sslice x lo hi => x :: (lo.toList ++ hi.toList)
  | .fa _ x => [x]
  | .ia _ x i => [x, i]
  | .iaa _ _ x i => [x, i]
  | .idxs x i => [x, i]
  | .idxa _ _ _ x i => [x, i]
  | .fld _ _ _ x => [x]
  | .len x => [x]
  | .slen x => [x]
  | .lenc _ => []
  | .append _ _ s x => [s, x]
  | .copy _ d s => [d, s]
  | .minmax _ xs => xs
  | .reim _ x => [x]
  | .mkcpx x y => [x, y]
  | .call _ _ args => args
  | .callv _ f args => f :: args
  | .ext _ x => [x]
  | .none => []

/-- the heap is neither read nor written -/
def isFree : AOp → Bool
  | .mov _ | .pick _ _ _ | .build _ _ | .bin _ _ _ | .beq _ _ _ | .aeq _ _ _ _ | .un _ _ | .conv _ _ | .mkfn _ _ | .sslice _ _ _ | .idxs _ _ | .idxa _ _ _ _ _ | .fld _ _ _ _ | .slen _ | .lenc _
  | .minmax _ _ | .reim _ _ | .mkcpx _ _ | .ext _ _ | .none => true
  | _ => false
/-- a new object, and nothing is read -/
def isMaker : AOp → Bool
  | .box _ _ | .alloc _ | .mksl _ _ _ _ _ => true
  | _ => false
def isShape : AOp → Bool
  | .nilchk _ | .slice _ _ _ _ | .fa _ _ | .ia _ _ _ | .iaa _ _ _ _ | .len _ => true
  | _ => false
def isRead (op : AOp) : Bool := isShape op || match op with
  | .load _ _ _ => true
  | _ => false

/-- operations that write into one object at most, freeze, and make new ones -/
def isWriter : AOp → Bool
  | .box _ _ | .alloc _ | .mksl _ _ _ _ _ | .bslice _ _ _ _ | .store _ _ _ | .append _ _ _ _ | .copy _ _ _ | .call .pure _ _ | .callv .pure _ _ => true
  | _ => false
/-- the operand whose object is written -/
def tgtX : AOp → List X
  | .store _ a _ => [a]
  | .append _ _ s _ => [s]
  | .copy _ d _ => [d]
  | _ => []
def keepsShape : AOp → Bool
  | .store _ _ _ | .copy _ _ _ => true
  | _ => false


def slotOf : X → Option Nat
  | .t n => some n
  | .c _ => none
def readsA (x : AOper) : List Nat := (xsOf x.op).filterMap slotOf ++ (match x.guard with
  | some (g, _) => [g]
  | none => [])
def apartA (x y : AOper) : Bool := (x.dst.all fun d => !(readsA y).contains d && y.dst != some d) && (y.dst.all fun d => !(readsA x).contains d)
def readWrite (x y : AOp) : Bool := isRead x && isWriter y && ((tgtX y).isEmpty || (isShape x && keepsShape y))
def statOK (x y : AOp) : Bool := isFree x || isFree y || (isRead x && isRead y) || readWrite x y || readWrite y x || (isMaker x && isWriter y) || (isMaker y && isWriter x)
/-- what the first reads, the second doesn't write -/
def disjA (ρ : X → V) (x y : AOp) : Bool := isRead x && isWriter y && (xsOf x).all fun a => (refsV (ρ a)).all fun o => (tgtX y).all fun b => !(refsV (ρ b)).contains o
/-- the objects that an operation's operands lead to, and those that its target does -/
def fpA (ρ : X → V) (o : AOper) : List Nat × List Nat := ((xsOf o.op).flatMap fun a => refsV (ρ a), (tgtX o.op).flatMap fun b => refsV (ρ b))
def clsF (x y : AOp) (fx fy : List Nat × List Nat) : Bool := (isRead x && isWriter y && fx.1.all fun o => !fy.2.contains o) || (isRead y && isWriter x && fy.1.all fun o => !fx.2.contains o)
def dynF (l : List AOper) (t : List (List Nat × List Nat)) (p : Nat × Nat) : Bool := match l[p.1]?, l[p.2]? with
  | some x, some y => clsF x.op y.op (t.getD p.1 ([], [])) (t.getD p.2 ([], []))
  | _, _ => false

/-- One operation; k: its number in its region (of which new objects' numbers are made). -/
def opStep (call : CallT) (base k : Nat) (o : AOper) (s : St) : Option St :=
  let go := (opEval call s.val s.ob (base + k * bound) o.op).map fun p => { s with ob := updAll s.ob p.2 }.put o.dst p.1
  match o.guard with
  | none => go
  | some (g, want) => match s.sl g with
    | .d (.bool b) => if b = want then go else some (s.put o.dst .undef)
    | .undef => some (s.put o.dst .undef)
    | _ => none

/-- operations, in this order -/
def ops (call : CallT) (base : Nat) : List (Nat × AOper) → St → Option St
  | [], s => some s
  | (k, o) :: r, s => (opStep call base k o s).bind (ops call base r)

def enum : Nat → List AOper → List (Nat × AOper)
  | _, [] => []
  | k, o :: r => (k, o) :: enum (k + 1) r

def foots (call : CallT) (base : Nat) : List (Nat × AOper) → St → Option (List (List Nat × List Nat))
  | [], _ => some []
  | (k, o) :: r, s => (opStep call base k o s).bind fun s' => (foots call base r s').map fun t => fpA s.val o :: t

def chkOK (call : CallT) (l : List AOper) (chk : List (Nat × Nat)) (s : St) : Bool := match chk with
  | [] => true
  | chk => match foots call s.nx (enum 0 l) s with
    | some t => chk.all (dynF l t)
    | none => false

def execReg (call : CallT) (l : List AOper) (chk : List (Nat × Nat)) (s : St) : Option St :=
  (ops call s.nx (enum 0 l) s).bind fun s' => if chkOK call l chk s then some { s' with nx := s.nx + l.length * bound } else none

/-! ### A loop's head: what no round needs falls away -/
def ownRow (s : St) (esz : Nat) : St := { s with ob := upd s.ob s.nx (some (.row 0 false esz [])), nx := s.nx + 1 }
def ownAt (s : St) : List OwnAt → Option St
  | [] => some s
  | .slot t esz :: r => match s.sl t with
    | .nsl => if esz = 0 then none else ownAt { ownRow s esz with sl := upd s.sl t (.own s.nx 0) } r
    | _ => ownAt s r
  | .cell t j esz :: r => match s.sl t with
    | .ref o ver 0 k => match s.ob o with
      | some (.box cells) => match cells[k + j]? with
        | some .nsl => if esz = 0 then none else ownAt { ownRow s esz with ob := upd (ownRow s esz).ob o (some (.box (cells.set (k + j) (.own s.nx 0)))) } r
        | _ => ownAt s r
      | _ => ownAt s r
    | _ => ownAt s r

def keepSl (f : Nat → V) : List Nat → Nat → V
  | [] => fun _ => .dead
  | t :: r => upd (keepSl f r) t (f t)
def keepOb (f : Heap) : List Nat → Heap
  | [] => fun _ => none
  | t :: r => upd (keepOb f r) t (f t)
def maxId : List Nat → Nat
  | [] => 0
  | o :: r => max (o + 1) (maxId r)

/-- what came in, and what it leads to beside it -/
def heldBy (ob : Heap) (m : Nat) : List Nat := (List.range m).flatMap fun o => refsO (ob o)

def clean (live : List Nat) (s : St) : Option St :=
  let roots := refsL (live.map s.sl)
  let ids := reach s.ob 100 (List.range s.m) (roots ++ heldBy s.ob s.m)
  if closed s.ob ids roots then
    some { sl := keepSl s.sl live, ob := keepOb s.ob ids, nx := max s.m (maxId ids), m := s.m }
  else none

def iter (body : St → Option (Ex × St)) (live : List Nat) : Nat → St → Option (Ex × St)
  | 0, _ => none
  | n + 1, s => (clean live s).bind fun s => (body s).bind fun r => match r.1 with
    | .normal => iter body live n r.2
    | e => some (e, r.2)

def exec (call : CallT) (n : Nat) : ACode → St → Option (Ex × St)
  | .skip, s => some (.normal, s)
  | .reg l chk, s => (execReg call l chk s).map fun s => (.normal, s)
  | .seq a b, s => (exec call n a s).bind fun r => match r.1 with
    | .normal => exec call n b r.2
    | e => some (e, r.2)
  | .cond c a b, s => match s.val c with
    | .d (.bool t) => if t then exec call n a s else exec call n b s
    | _ => none
  | .block id a, s => (exec call n a s).map fun r => match r.1 with
    | .exit j => if j = id then (.normal, r.2) else (.exit j, r.2)
    | e => (e, r.2)
  | .loop own live a, s => (ownAt s own).bind fun s => iter (exec call n a) live n s
  | .exit id, s => some (.exit id, s)
  | .ret, s => some (.ret, s)
  | .scope a, s => exec call n a s

def rv (s : St) : RV → Option V
  | .slot t => some (s.sl t)
  | .cell t n agg => match s.sl t with
    | .ref o ver 0 j => match s.ob o with
      | some (.box cells) => loadFrom agg n (part cells j n)
      | _ => none
    | _ => none

def tupOf : List V → V
  | [v] => v
  | vs => .tup vs

def argSl : Nat → List V → Nat → V
  | _, [] => fun _ => .undef
  | k, v :: r => upd (argSl (k + 1) r) k v
def argOb : Nat → List Obj → Heap
  | _, [] => fun _ => none
  | k, o :: r => upd (argOb (k + 1) r) k (some o)

/-- the end of a call: the answer; if objects came in, they, and the new ones that the answer or they reach; else the answer as data -/
def finish (m : Nat) (v : V) (s : St) : Option (V × List Obj × List Obj) :=
  if m = 0 then (pureV s.ob v).map fun v => (v, [], [])
  else
    let ids := reach s.ob 100 (List.range m) (refsV v ++ heldBy s.ob m)
    let f := idxOf ids
    if closed s.ob ids (refsV v) then (mapO s.ob ids).map fun objs => (renV f v, (objs.take m).map (renO f), (objs.drop m).map (renO f)) else none

def runF (call : CallT) (n : Nat) (af : AFunc) (args : List V) (objs : List Obj) : Option (V × List Obj × List Obj) :=
  (exec call n af.body { sl := argSl 0 args, ob := argOb 0 objs, nx := objs.length, m := objs.length }).bind fun r => match r.1 with
    | .exit _ => none
    | _ => (mapO (rv r.2) af.results).bind fun vs => finish objs.length (tupOf vs) r.2

/-- a program: a function's code, by its number; 'spec' stands for functions that are not looked into -/
def run (P : Nat → Option AFunc) (spec : CallT) : Nat → CallT
  | 0 => fun _ _ _ => none
  | n + 1 => fun f args objs => match P f with
    | some af => runF (run P spec n) n af args objs
    | none => spec f args objs

end Go.Proofs.Am
set_option linter.unusedVariables false
namespace Go.Proofs.Am
open Go

inductive Hint where
  | loop (own : List OwnAt) (live : List Nat)
  | mode (m : Mode)
  deriving Inhabited

mutual
def valD : Value → Option D
  | .bool b => some (.bool b)
  | .int k n => some (.int k n)
  | .float k b => some (.flt k b)
  | .complex k a b => some (.cpx k a b)
  | .string s => some (.str s)
  | .pointer none => some .nilp
  | .slice none 0 0 => some (.sl [])
  | .nilFunc => some .nilf
  | .nilIface => some .nilif
  | _ => none
end
def valV1 : Value → Option V
  | .slice none 0 0 => some .nsl
  | v => (valD v).map .d
def valV : Value → Option V
  | .agg cs => (mapO valV1 cs.toList).map .agg
  | v => valV1 v

def compX : Operand → Option X
  | .tmp t => some (.t t)
  | .const v => (valV v).map .c
  | .func f => some (.c (.fn f []))
  | .global _ => none

def isAggT (P : Program) (t : TypeId) : Option Bool := (P.underlying t).map fun
  | .struct _ | .array _ _ => true
  | _ => false
def sizeT (P : Program) (t : TypeId) : Option Nat := (P.info? t).map (·.size)
def zeroT (P : Program) (t : TypeId) : Option Value := (P.info? t).bind (·.zero)
def bytesT (P : Program) (t : TypeId) : Option Nat := (P.info? t).map (·.bytes)
def sliceE (P : Program) (t : TypeId) : Option TypeId := match P.underlying t with
  | some (.slice e) => some e
  | _ => none
def zeroD (P : Program) (t : TypeId) : Option (List D) := (zeroT P t).bind fun v => mapO valD v.cells.toList
def zeroV (P : Program) (t : TypeId) : Option (List V) := (zeroT P t).bind fun v => mapO valV1 v.cells.toList

/-- where a value of whole numbers, bools, strings and structs and arrays of these has its cells, and of which kind they are -/
def leaves (P : Program) : Nat → TypeId → Option (List (Nat × LK))
  | 0, _ => none
  | n + 1, t => match P.underlying t with
    | some .bool => some [(0, .bool)]
    | some (.int _) => some [(0, .int)]
    | some .string => some [(0, .str)]
    | some (.struct fs) => if P.stoodInHeld t then none else
      (mapO (fun (f : Field) => if f.name == "_" then none else (leaves P n f.type).bind fun ls => (sizeT P f.type).bind fun s => if ls.all (fun p => p.1 < s) then some (ls.map fun p => (f.offset + p.1, p.2)) else none) fs.toList).map List.flatten
    | some (.array m e) => (leaves P n e).bind fun ls => (sizeT P e).bind fun s => if ls.all (fun p => p.1 < s) then
        some ((List.range m).flatMap fun i => ls.map fun p => (i * s + p.1, p.2)) else none
    | _ => none

def fieldsAt (P : Program) (fs : Array Field) (i : Nat) : Option (Nat × Nat) := (fs[i]?).bind fun f => (sizeT P f.type).map fun n => (f.offset, n)

def compParts (P : Program) (place : Nat → Option (Nat × Nat)) (ps : List (Nat × Operand)) : Option (List (Nat × Nat × X)) :=
  mapO (fun p => (place p.1).bind fun q => (compX p.2).map fun x => (q.1, q.2, x)) ps

def optX : Option Operand → Option (Option X)
  | none => some none
  | some x => (compX x).map some

/-- an operation; the mode of a call is the first hint -/
def compOp (P : Program) (o : Op) (hs : List Hint) : Option (AOp × List Hint) :=
  match o with
  | .move x | .assign x => (compX x).map fun x => (.mov x, hs)
  | .pick c a b => (compX c).bind fun c => (compX a).bind fun a => (compX b).map fun b => (.pick c a b, hs)
  | .box t x => (sizeT P t).bind fun n => (compX x).map fun x => (.box n x, hs)
  | .alloc t => (zeroV P t).map fun cs => (.alloc cs, hs)
  | .build t parts => (zeroV P t).bind fun z => match P.underlying t with
    | some (.struct fs) => if (fs.toList.all fun f => (sizeT P f.type).isSome) = false then none else (compParts P (fieldsAt P fs) parts.toList).map fun ps => (.build z ps, hs)
    | some (.array _ e) => (sizeT P e).bind fun n => (compParts P (fun i => some (i * n, n)) parts.toList).map fun ps => (.build z ps, hs)
    | _ => none
  | .buildSlice t len parts => (sliceE P t).bind fun e => (sizeT P e).bind fun n => (zeroD P e).bind fun z =>
    if n = 0 ∨ len * n > 2 ^ 24 ∨ z.length ≠ n then none else
    (mapO (fun (p : Nat × Operand) => (compX p.2).map fun x => (p.1, x)) parts.toList).map fun ps => (.bslice n len z ps, hs)
  | .load t a => (isAggT P t).bind fun g => (sizeT P t).bind fun n => (compX a).map fun a => (.load g n a, hs)
  | .store t a x => (sizeT P t).bind fun n => (compX a).bind fun a => (compX x).map fun x => (.store n a x, hs)
  | .nilCheck x => (compX x).map fun x => (.nilchk x, hs)
  | .binOp op t x y _ => (compX x).bind fun x => (compX y).bind fun y => match op, P.underlying t with
    | .eql, some .bool => some (.beq false x y, hs)
    | .neq, some .bool => some (.beq true x y, hs)
    | .eql, some (.struct _) | .eql, some (.array _ _) => if P.eqGuardType P.depth t then none else (leaves P 10 t).map fun ls => (.aeq false ls x y, hs)
    | .neq, some (.struct _) | .neq, some (.array _ _) => if P.eqGuardType P.depth t then none else (leaves P 10 t).map fun ls => (.aeq true ls x y, hs)
    | _, _ => some (.bin op x y, hs)
  | .unOp op _ x => (compX x).map fun x => (.un op x, hs)
  | .convert src dst x => (compX x).bind fun x => match P.underlying src, P.underlying dst with
    | some (.int _), some (.int k) => some (.conv (.toInt k) x, hs)
    | some (.float _), some (.int k) => some (.conv (.toInt k) x, hs)
    | some (.int _), some (.float k) => some (.conv (.toFlt k) x, hs)
    | some .string, some .string => some (.conv .same x, hs)
    | _, _ => none
  | .makeFunc (.func f) first captured => if first.isEmpty then (mapO compX captured.toList).map fun xs => (.mkfn f xs, hs) else none
  | .makeSlice t len cap => (sliceE P t).bind fun e => (sizeT P e).bind fun n => (bytesT P e).bind fun b => (zeroD P e).bind fun z =>
    if n = 0 ∨ b = 0 ∨ z.length ≠ n then none else (compX len).bind fun l => (compX cap).map fun c => (.mksl n b z l c, hs)
  | .slice t x lo hi none => match P.underlying t with
    | some (.slice e) => (sizeT P e).bind fun n => (compX x).bind fun x => (optX lo).bind fun lo => (optX hi).map fun hi => (.slice n x lo hi, hs)
    | some .string => (compX x).bind fun x => (optX lo).bind fun lo => (optX hi).map fun hi => (.sslice x lo hi, hs)
    | _ => none
  | .fieldAddr t x f => match P.underlying t with
    | some (.struct fs) => (fieldsAt P fs f).bind fun p => if p.2 = 0 then none else (compX x).map fun x => (.fa p.1 x, hs)
    | _ => none
  | .field t x f => match P.underlying t with
    | some (.struct fs) => (fs[f]?).bind fun fl => (sizeT P fl.type).bind fun n => (isAggT P fl.type).bind fun g => (compX x).map fun x => (.fld g fl.offset n x, hs)
    | _ => none
  | .indexAddr t x i => (compX x).bind fun x => (compX i).bind fun i => match P.underlying t with
    | some (.slice e) => (sizeT P e).bind fun n => if n = 0 then none else some (.ia n x i, hs)
    | some (.array n e) => (sizeT P e).map fun s => (.iaa n s x i, hs)
    | _ => none
  | .index t x i => (compX x).bind fun x => (compX i).bind fun i => match P.underlying t with
    | some .string => some (.idxs x i, hs)
    | some (.array n e) => (sizeT P e).bind fun s => (isAggT P e).map fun g => (.idxa n s g x i, hs)
    | _ => none
  | .extract x i => (compX x).map fun x => (.ext i x, hs)
  | .call c => (mapO compX c.args.toList).bind fun xs => match c.callee with
    | .value (.func f) => match hs with
      | .mode m :: hs => some (.call m f xs, hs)
      | _ => none
    | .value f => (compX f).bind fun f => match hs with
      | .mode m :: hs => some (.callv m f xs, hs)
      | _ => none
    | .builtin .len => match xs, (c.argTypes[0]?).bind P.underlying with
      | [x], some (.slice _) => some (.len x, hs)
      | [x], some .string => some (.slen x, hs)
      | [_], some (.array n _) => some (.lenc n, hs)
      | _, _ => none
    | .builtin .append => match xs, c.argTypes[0]?, (c.argTypes[1]?).bind P.underlying with
      | [s, x], some t, some (.slice _) | [s, x], some t, some .string =>
        (sliceE P t).bind fun e => (sizeT P e).bind fun n => (bytesT P e).bind fun b => (zeroT P e).bind fun z => if n = 0 ∨ b = 0 ∨ z.cells.size ≠ n then none else some (.append n b s x, hs)
      | _, _, _ => none
    | .builtin .copy => match xs, (c.argTypes[0]?).bind (sliceE P) with
      | [d, s], some e => (sizeT P e).bind fun n => if n = 0 then none else some (.copy n d s, hs)
      | _, _ => none
    | .builtin .max => some (.minmax true xs, hs)
    | .builtin .min => some (.minmax false xs, hs)
    | .builtin .real => match xs with
      | [x] => some (.reim false x, hs)
      | _ => none
    | .builtin .imag => match xs with
      | [x] => some (.reim true x, hs)
      | _ => none
    | .builtin .complex => match xs with
      | [x, y] => some (.mkcpx x y, hs)
      | _ => none
    | _ => none
  | .panic _ => some (.none, hs)
  | _ => none

def constOK : X → Bool
  | .t _ => true
  | .c v => (refsV v).isEmpty

def compOper (P : Program) (n : Nat) (os : Array Oper) (o : Oper) (hs : List Hint) : Option (AOper × List Hint) :=
  if (o.dst.all fun d => decide (d < n)) = false then none else
  (compOp P o.op hs).bind fun r => if (xsOf r.1).all constOK = false then none else match o.guard with
    | none => some ({ dst := o.dst, op := r.1, guard := none }, r.2)
    | some (j, b) => ((os[j]?).bind (·.dst)).map fun t => ({ dst := o.dst, op := r.1, guard := some (t, b) }, r.2)

def compOps (P : Program) (n : Nat) (os : Array Oper) : List Oper → List Hint → Option (List AOper × List Hint)
  | [], hs => some ([], hs)
  | o :: r, hs => (compOper P n os o hs).bind fun a => (compOps P n os r a.2).map fun b => (a.1 :: b.1, b.2)

/-! ### Regions whose operations come in any order -/
def direct (o : Oper) : List Nat := (o.after.toList.filter (Region.binds .any)).map (·.on)
/-- for each operation, those that surely come before it -/
def closure : List (List Nat) → List Oper → List (List Nat)
  | acc, [] => acc
  | acc, o :: r => closure (acc ++ [direct o ++ (direct o).flatMap fun j => acc.getD j []]) r
/-- the pairs that may come in either order -/
def loose (os : Array Oper) : List (Nat × Nat) :=
  let cl := closure [] os.toList
  (List.range os.size).flatMap fun i => (List.range i).filterMap fun j => if (cl.getD i []).contains j then none else some (j, i)
def pairA (l : List AOper) (f : AOper → AOper → Bool) (p : Nat × Nat) : Bool := match l[p.1]?, l[p.2]? with
  | some x, some y => f x y
  | _, _ => false
/-- can they be put in an order at all? -/
def acyc (md : Region.Mode) (os : Array Oper) : Bool :=
  let r := Region.linearise md os 0
  (List.range os.size).all fun i => ((os[i]?).map fun o => o.after.all fun e => !Region.binds md e || (decide (e.on < os.size) && decide (idxOf r e.on < idxOf r i))).getD true
/-- may they come in any order? the pairs to be looked at when it runs -/
def drawn (os : Array Oper) (l : List AOper) : Option (List (Nat × Nat)) :=
  let ps := loose os
  let chk := ps.filter fun p => !pairA l (fun x y => statOK x.op y.op) p
  if ps.all (pairA l apartA) && (acyc .any os && acyc .text os && acyc .gc os) then some chk else none

def compC (P : Program) (n : Nat) : Code → List Hint → Option (ACode × List Hint)
  | .skip, hs => some (.skip, hs)
  | .region _ os draw, hs => (compOps P n os os.toList hs).bind fun r =>
    if draw then (drawn os r.1).map fun chk => (.reg r.1 chk, r.2) else some (.reg r.1 [], r.2)
  | .seq a b, hs => (compC P n a hs).bind fun x => (compC P n b x.2).map fun y => (.seq x.1 y.1, y.2)
  | .cond c a b, hs => (compX c).bind fun c => (compC P n a hs).bind fun x => (compC P n b x.2).map fun y => (.cond c x.1 y.1, y.2)
  | .block id a, hs => (compC P n a hs).map fun x => (.block id x.1, x.2)
  | .loop a, hs => match hs with
    | .loop own live :: hs => (compC P n a hs).map fun x => (.loop own live x.1, x.2)
    | _ => none
  | .exit id, hs => some (.exit id, hs)
  | .ret, hs => some (.ret, hs)
  | .scope a, hs => (compC P n a hs).map fun x => (.scope x.1, x.2)
  | .label _, hs => some (.skip, hs)
  | _, _ => none

def compR (P : Program) : ResultVar → Option RV
  | .tmp t => some (.slot t)
  | .cell a t => (sizeT P t).bind fun n => (isAggT P t).map fun g => .cell a n g

def compF (P : Program) (f : Func) (hs : List Hint) : Option AFunc :=
  f.body.bind fun c => (compC P f.ntmps c hs).bind fun x => if x.2.isEmpty then (mapO (compR P) f.results.toList).map fun rs => { results := rs, body := x.1 } else none

end Go.Proofs.Am
set_option linter.unusedVariables false
namespace Go.Proofs.Am
open Go

/-- Data in memory; I: the blocks that nobody writes any more. -/
inductive RepD (w : World) (I : Nat → Prop) : Value → D → Prop
  | int (k : IntKind) (n : Int) : RepD w I (.int k n) (.int k n)
  | bool (b : Bool) : RepD w I (.bool b) (.bool b)
  | str (s : ByteArray) : RepD w I (.string s) (.str s)
  | flt (k : FloatKind) (b : Nat) : RepD w I (.float k b) (.flt k b)
  | cpx (k : FloatKind) (a b : Nat) : RepD w I (.complex k a b) (.cpx k a b)
  | agg (cs : Array Value) (ds : List D) (hl : cs.size = ds.length) (h1 : ∀ (i : Nat) v, cs[i]? = some v → v.oneCell' = true)
      (h : ∀ (i : Nat) v d, cs[i]? = some v → ds[i]? = some d → RepD w I v d) : RepD w I (.agg cs) (.agg ds)
  | slE (a : Option Addr) (c : Nat) : RepD w I (.slice a 0 c) (.sl [])
  | sl (b off n c s : Nat) (elems : List (List D)) (vs : Nat → Value) (hn : elems.length = n) (hcap : n ≤ c) (hI : I b) (he : ∀ e ∈ elems, e.length = s)
      (hc : ∀ (i j : Nat) e d, elems[i]? = some e → e[j]? = some d → w.cell? ⟨b, off + (i * s + j), none⟩ = some (vs (i * s + j)) ∧ (vs (i * s + j)).oneCell' = true)
      (hr : ∀ (i j : Nat) e d, elems[i]? = some e → e[j]? = some d → RepD w I (vs (i * s + j)) d) : RepD w I (.slice (some ⟨b, off, none⟩) n c) (.sl elems)
  | ptr (b base off : Nat) (cells : List D) (vs : Nat → Value) (hI : I b)
      (hc : ∀ (j : Nat) d, cells[j]? = some d → w.cell? ⟨b, base + j, none⟩ = some (vs j) ∧ (vs j).oneCell' = true)
      (hr : ∀ (j : Nat) d, cells[j]? = some d → RepD w I (vs j) d) : RepD w I (.pointer (some ⟨b, base + off, none⟩)) (.ptr cells off)
  | fn (f : Nat) (cs : Array Value) (ds : List D) (hl : cs.size = ds.length) (h1 : ∀ (i : Nat) v, cs[i]? = some v → v.oneCell' = true)
      (h : ∀ (i : Nat) v d, cs[i]? = some v → ds[i]? = some d → RepD w I v d) : RepD w I (.func (.func f) #[] cs) (.fn f ds)
  | nilp : RepD w I (.pointer none) .nilp
  | nilf : RepD w I .nilFunc .nilf
  | nilif : RepD w I .nilIface .nilif
  | iface (t : Nat) (v : Value) (d : D) (h : RepD w I v d) : RepD w I (.iface t v) (.iface t d)

theorem RepD.mono {w w' : World} {I I' : Nat → Prop} (hI : ∀ b, I b → I' b) (hw : ∀ b, I b → w'.heap[b]? = w.heap[b]?) {v : Value} {d : D} (h : RepD w I v d) : RepD w' I' v d := by
  induction h with
  | int k n => exact .int k n
  | bool b => exact .bool b
  | str s => exact .str s
  | flt k b => exact .flt k b
  | cpx k a b => exact .cpx k a b
  | agg cs ds hl h1 _ ih => exact .agg cs ds hl h1 ih
  | slE a c => exact .slE a c
  | sl b off n c s elems vs hn hcap hb he hc _ ih =>
    refine .sl b off n c s elems vs hn hcap (hI b hb) he (fun i j e d h1 h2 => ?_) ih
    rw [World.cell?_of_block (w := w) (hw b hb)]
    exact hc i j e d h1 h2
  | ptr b base off cells vs hb hc _ ih =>
    refine .ptr b base off cells vs (hI b hb) (fun j d h1 => ?_) ih
    rw [World.cell?_of_block (w := w) (hw b hb)]
    exact hc j d h1
  | fn f cs ds hl h1 _ ih => exact .fn f cs ds hl h1 ih
  | nilp => exact .nilp
  | nilf => exact .nilf
  | nilif => exact .nilif
  | iface t v d _ ih => exact .iface t v d ih


mutual
def RepV (w : World) (I : Nat → Prop) (ob : Heap) (μ : Nat → Value) : Value → V → Prop
  | v, .d x => RepD w I v x ∧ v.oneCell' = true
  | v, .nsl => v = .slice none 0 0
  | v, .agg cells => ∃ cs : Array Value, v = .agg cs ∧ RepL w I ob μ cs.toList cells
  | v, .ref o ver i j => v.oneCell' = true ∧ match ob o with
    | none => True
    | some (.box _) => ∃ b, i = 0 ∧ μ o = .pointer (some ⟨b, 0, none⟩) ∧ v = .pointer (some ⟨b, j, none⟩)
    | some (.row v' _ s _) => ver ≤ v' ∧ (ver = v' → ∃ b n c, μ o = .slice (some ⟨b, 0, none⟩) n c ∧ v = .pointer (some ⟨b, i * s + j, none⟩))
  | v, .own o ver => v.oneCell' = true ∧ match ob o with
    | some (.row v' _ _ _) => ver ≤ v' ∧ (ver = v' → v = μ o)
    | _ => True
  | v, .osl o ver off len => v.oneCell' = true ∧ match ob o with
    | some (.row v' _ s _) => ver ≤ v' ∧ (ver = v' → ∃ A c, v = .slice A len c ∧ len ≤ c ∧ (len = 0 ∨ ∃ b n c', μ o = .slice (some ⟨b, 0, none⟩) n c' ∧ A = some ⟨b, off * s, none⟩))
    | _ => True
  | v, .fn f caps => ∃ cs : Array Value, v = .func (.func f) #[] cs ∧ RepL w I ob μ cs.toList caps
  | v, .tup vs => ∃ cs : Array Value, v = .tuple cs ∧ RepT w I ob μ cs.toList vs
  | v, .undef => v = undef
  | _, .dead => True
def RepL (w : World) (I : Nat → Prop) (ob : Heap) (μ : Nat → Value) : List Value → List V → Prop
  | [], [] => True
  | v :: vs, c :: cs => (RepV w I ob μ v c ∧ v.oneCell' = true) ∧ RepL w I ob μ vs cs
  | _, _ => False
def RepT (w : World) (I : Nat → Prop) (ob : Heap) (μ : Nat → Value) : List Value → List V → Prop
  | [], [] => True
  | v :: vs, c :: cs => RepV w I ob μ v c ∧ RepT w I ob μ vs cs
  | _, _ => False
end

def muta : Obj → Bool
  | .box _ => true
  | .row _ f _ _ => !f

def blockOf : Value → Option Nat
  | .pointer (some a) => some a.block
  | .slice (some a) _ _ => some a.block
  | _ => none

/-- what stays behind a step, seen from a reference -/
def Keep (ob : Heap) (μ : Nat → Value) (ob' : Heap) (μ' : Nat → Value) (o : Nat) : Prop :=
  match ob o, ob' o with
  | _, none => True
  | some (.box _), some (.box _) => μ' o = μ o
  | some (.row v _ s _), some (.row v' _ s' _) => v ≤ v' ∧ (v' = v → s' = s ∧ μ' o = μ o)
  | _, _ => False

theorem Keep.refl (ob : Heap) (μ : Nat → Value) (o : Nat) : Keep ob μ ob μ o := by
  unfold Keep
  cases h : ob o with
  | none => trivial
  | some x => cases x <;> simp

theorem Keep.same {ob : Heap} {μ : Nat → Value} {ob' : Heap} {μ' : Nat → Value} {o : Nat} (h : ob' o = ob o) (hm : μ' o = μ o) : Keep ob μ ob' μ' o := by
  unfold Keep
  rw [h]
  cases h : ob o with
  | none => trivial
  | some x => cases x <;> simp [hm]

mutual
theorem RepV.mono {w w' : World} {I I' : Nat → Prop} {ob ob' : Heap} {μ μ' : Nat → Value} (hI : ∀ b, I b → I' b) (hw : ∀ b, I b → w'.heap[b]? = w.heap[b]?) :
    ∀ (x : V) (v : Value), (∀ o ∈ refsV x, Keep ob μ ob' μ' o) → RepV w I ob μ v x → RepV w' I' ob' μ' v x
  | .d x, v, hk, h => by
    simp only [RepV] at h ⊢
    exact ⟨h.1.mono hI hw, h.2⟩
  | .nsl, v, hk, h => by simp only [RepV] at h ⊢; exact h
  | .agg cells, v, hk, h => by
    simp only [RepV] at h ⊢
    obtain ⟨cs, hv, hl⟩ := h
    exact ⟨cs, hv, RepL.mono hI hw cells cs.toList (by simpa only [refsV] using hk) hl⟩
  | .ref o ver i j, v, hk, h => by
    have hko := hk o (by simp [refsV])
    simp only [RepV] at h ⊢
    unfold Keep at hko
    refine ⟨h.1, ?_⟩
    replace h := h.2
    cases h2 : ob' o with
    | none => trivial
    | some y =>
      rw [h2] at hko
      cases h1 : ob o with
      | none => simp [h1] at hko
      | some x =>
        rw [h1] at hko h
        cases x <;> cases y <;> simp only at hko h ⊢
        · obtain ⟨b, hi, hm, hv⟩ := h
          exact ⟨b, hi, hko.trans hm, hv⟩
        · obtain ⟨hle, hh⟩ := h
          refine ⟨Nat.le_trans hle hko.1, fun e => ?_⟩
          have e2 := Nat.le_antisymm (e ▸ hle) hko.1
          obtain ⟨hs, hm⟩ := hko.2 e2
          obtain ⟨b, n, c, h1, h2⟩ := hh (e.trans e2)
          exact ⟨b, n, c, hm.trans h1, hs ▸ h2⟩
  | .own o ver, v, hk, h => by
    have hko := hk o (by simp [refsV])
    simp only [RepV] at h ⊢
    unfold Keep at hko
    refine ⟨h.1, ?_⟩
    replace h := h.2
    cases h2 : ob' o with
    | none => trivial
    | some y =>
      rw [h2] at hko
      cases h1 : ob o with
      | none => simp [h1] at hko
      | some x =>
        rw [h1] at hko h
        cases x <;> cases y <;> simp only at hko h ⊢
        · obtain ⟨hle, hh⟩ := h
          refine ⟨Nat.le_trans hle hko.1, fun e => ?_⟩
          have e2 := Nat.le_antisymm (e ▸ hle) hko.1
          obtain ⟨hs, hm⟩ := hko.2 e2
          exact (hh (e.trans e2)).trans hm.symm
  | .osl o ver off len, v, hk, h => by
    have hko := hk o (by simp [refsV])
    simp only [RepV] at h ⊢
    unfold Keep at hko
    refine ⟨h.1, ?_⟩
    replace h := h.2
    cases h2 : ob' o with
    | none => trivial
    | some y =>
      rw [h2] at hko
      cases h1 : ob o with
      | none => simp [h1] at hko
      | some x =>
        rw [h1] at hko h
        cases x <;> cases y <;> simp only at hko h ⊢
        · obtain ⟨hle, hh⟩ := h
          refine ⟨Nat.le_trans hle hko.1, fun e => ?_⟩
          have e2 := Nat.le_antisymm (e ▸ hle) hko.1
          obtain ⟨hs, hm⟩ := hko.2 e2
          obtain ⟨A, c, hv, hcap, hA⟩ := hh (e.trans e2)
          refine ⟨A, c, hv, hcap, hA.imp id ?_⟩
          rintro ⟨b, n, c', h1, h2⟩
          exact ⟨b, n, c', hm.trans h1, hs ▸ h2⟩
  | .fn f caps, v, hk, h => by
    simp only [RepV] at h ⊢
    obtain ⟨cs, hv, hl⟩ := h
    exact ⟨cs, hv, RepL.mono hI hw caps cs.toList (by simpa only [refsV] using hk) hl⟩
  | .tup vs, v, hk, h => by
    simp only [RepV] at h ⊢
    obtain ⟨cs, hv, hl⟩ := h
    exact ⟨cs, hv, RepT.mono hI hw vs cs.toList (by simpa only [refsV] using hk) hl⟩
  | .undef, v, hk, h => by simp only [RepV] at h ⊢; exact h
  | .dead, v, hk, h => by simp only [RepV]
theorem RepL.mono {w w' : World} {I I' : Nat → Prop} {ob ob' : Heap} {μ μ' : Nat → Value} (hI : ∀ b, I b → I' b) (hw : ∀ b, I b → w'.heap[b]? = w.heap[b]?) :
    ∀ (xs : List V) (vs : List Value), (∀ o ∈ refsL xs, Keep ob μ ob' μ' o) → RepL w I ob μ vs xs → RepL w' I' ob' μ' vs xs
  | [], [], hk, h => by simp only [RepL]
  | [], v :: vs, hk, h => by simp [RepL] at h
  | x :: xs, [], hk, h => by simp [RepL] at h
  | x :: xs, v :: vs, hk, h => by
    simp only [RepL] at h ⊢
    simp only [refsL, List.mem_append] at hk
    exact ⟨⟨RepV.mono hI hw x v (fun o ho => hk o (.inl ho)) h.1.1, h.1.2⟩, RepL.mono hI hw xs vs (fun o ho => hk o (.inr ho)) h.2⟩
theorem RepT.mono {w w' : World} {I I' : Nat → Prop} {ob ob' : Heap} {μ μ' : Nat → Value} (hI : ∀ b, I b → I' b) (hw : ∀ b, I b → w'.heap[b]? = w.heap[b]?) :
    ∀ (xs : List V) (vs : List Value), (∀ o ∈ refsL xs, Keep ob μ ob' μ' o) → RepT w I ob μ vs xs → RepT w' I' ob' μ' vs xs
  | [], [], hk, h => by simp only [RepT]
  | [], v :: vs, hk, h => by simp [RepT] at h
  | x :: xs, [], hk, h => by simp [RepT] at h
  | x :: xs, v :: vs, hk, h => by
    simp only [RepT] at h ⊢
    simp only [refsL, List.mem_append] at hk
    exact ⟨RepV.mono hI hw x v (fun o ho => hk o (.inl ho)) h.1, RepT.mono hI hw xs vs (fun o ho => hk o (.inr ho)) h.2⟩
end

theorem RepL.length {w : World} {I : Nat → Prop} {ob : Heap} {μ : Nat → Value} : ∀ {vs : List Value} {xs : List V}, RepL w I ob μ vs xs → vs.length = xs.length
  | [], [], _ => rfl
  | [], _ :: _, h => by simp [RepL] at h
  | _ :: _, [], h => by simp [RepL] at h
  | _ :: _, _ :: _, h => by simp only [RepL] at h; simp [RepL.length h.2]
theorem RepT.length {w : World} {I : Nat → Prop} {ob : Heap} {μ : Nat → Value} : ∀ {vs : List Value} {xs : List V}, RepT w I ob μ vs xs → vs.length = xs.length
  | [], [], _ => rfl
  | [], _ :: _, h => by simp [RepT] at h
  | _ :: _, [], h => by simp [RepT] at h
  | _ :: _, _ :: _, h => by simp only [RepT] at h; simp [RepT.length h.2]
theorem RepL.at {w : World} {I : Nat → Prop} {ob : Heap} {μ : Nat → Value} : ∀ {vs : List Value} {xs : List V}, RepL w I ob μ vs xs → ∀ (i : Nat) v x, vs[i]? = some v → xs[i]? = some x → RepV w I ob μ v x ∧ v.oneCell' = true
  | [], [], _, i, v, x, h, _ => by simp at h
  | [], _ :: _, h, _, _, _, _, _ => by simp [RepL] at h
  | _ :: _, [], h, _, _, _, _, _ => by simp [RepL] at h
  | a :: vs, b :: xs, h, i, v, x, h1, h2 => by
    simp only [RepL] at h
    cases i with
    | zero => simp at h1 h2; subst h1; subst h2; exact h.1
    | succ i => exact RepL.at h.2 i v x (by simpa using h1) (by simpa using h2)
theorem RepL.mk {w : World} {I : Nat → Prop} {ob : Heap} {μ : Nat → Value} : ∀ {vs : List Value} {xs : List V}, vs.length = xs.length → (∀ (i : Nat) v x, vs[i]? = some v → xs[i]? = some x → RepV w I ob μ v x ∧ v.oneCell' = true) → RepL w I ob μ vs xs
  | [], [], _, _ => by simp only [RepL]
  | [], _ :: _, h, _ => by simp at h
  | _ :: _, [], h, _ => by simp at h
  | a :: vs, b :: xs, h, hh => by
    simp only [RepL]
    exact ⟨hh 0 a b rfl rfl, RepL.mk (by simpa using h) fun i v x h1 h2 => hh (i + 1) v x (by simpa using h1) (by simpa using h2)⟩

/-- A row of the call's own: its slice value, and its cells one behind the other. -/
def OwnRow (w : World) (s : Nat) (v : Value) (n : Nat) (xs : List Value) : Prop :=
  xs.length = n * s ∧ ((v = .slice none 0 0 ∧ n = 0) ∨
    ∃ g cap cur e, v = .slice (some ⟨g, 0, none⟩) n cap ∧ w.heap[g]? = some (.cells cur e (0, 0)) ∧ n ≤ cap ∧ cap ≤ maxLen ∧ cur.size = cap * s ∧ cur.toList.take (n * s) = xs)

/-- elements' cells, one behind the other -/
def flatD (elems : List (List D)) : List D := elems.flatten

def RepDs (w : World) (I : Nat → Prop) : List Value → List D → Prop
  | [], [] => True
  | v :: vs, d :: ds => (RepD w I v d ∧ v.oneCell' = true) ∧ RepDs w I vs ds
  | _, _ => False

theorem RepDs.mono {w w' : World} {I I' : Nat → Prop} (hI : ∀ b, I b → I' b) (hw : ∀ b, I b → w'.heap[b]? = w.heap[b]?) : ∀ {vs : List Value} {ds : List D}, RepDs w I vs ds → RepDs w' I' vs ds
  | [], [], _ => by simp only [RepDs]
  | [], _ :: _, h => by simp [RepDs] at h
  | _ :: _, [], h => by simp [RepDs] at h
  | _ :: _, _ :: _, h => by simp only [RepDs] at h ⊢; exact ⟨⟨h.1.1.mono hI hw, h.1.2⟩, RepDs.mono hI hw h.2⟩
theorem RepDs.length {w : World} {I : Nat → Prop} : ∀ {vs : List Value} {ds : List D}, RepDs w I vs ds → vs.length = ds.length
  | [], [], _ => rfl
  | [], _ :: _, h => by simp [RepDs] at h
  | _ :: _, [], h => by simp [RepDs] at h
  | _ :: _, _ :: _, h => by simp only [RepDs] at h; simp [RepDs.length h.2]
theorem RepDs.at {w : World} {I : Nat → Prop} : ∀ {vs : List Value} {xs : List D}, RepDs w I vs xs → ∀ (i : Nat) x, xs[i]? = some x → ∃ v, vs[i]? = some v ∧ RepD w I v x ∧ v.oneCell' = true
  | [], [], _, i, x, h => by simp at h
  | [], _ :: _, h, _, _, _ => by simp [RepDs] at h
  | _ :: _, [], h, _, _, _ => by simp [RepDs] at h
  | a :: vs, b :: xs, h, i, x, h2 => by
    simp only [RepDs] at h
    cases i with
    | zero => simp at h2; subst h2; exact ⟨a, rfl, h.1⟩
    | succ i => obtain ⟨v, h3, h4⟩ := RepDs.at h.2 i x (by simpa using h2); exact ⟨v, by simpa using h3, h4⟩
theorem RepDs.mk {w : World} {I : Nat → Prop} : ∀ {vs : List Value} {xs : List D}, vs.length = xs.length → (∀ (i : Nat) v x, vs[i]? = some v → xs[i]? = some x → RepD w I v x ∧ v.oneCell' = true) → RepDs w I vs xs
  | [], [], _, _ => by simp only [RepDs]
  | [], _ :: _, h, _ => by simp at h
  | _ :: _, [], h, _ => by simp at h
  | a :: vs, b :: xs, h, hh => by
    simp only [RepDs]
    exact ⟨hh 0 a b rfl rfl, RepDs.mk (by simpa using h) fun i v x h1 h2 => hh (i + 1) v x (by simpa using h1) (by simpa using h2)⟩
theorem RepDs.append {w : World} {I : Nat → Prop} : ∀ {vs ws : List Value} {ds es : List D}, RepDs w I vs ds → RepDs w I ws es → RepDs w I (vs ++ ws) (ds ++ es)
  | [], ws, [], es, _, h => by simpa using h
  | [], _, _ :: _, _, h, _ => by simp [RepDs] at h
  | _ :: _, _, [], _, h, _ => by simp [RepDs] at h
  | _ :: _, _, _ :: _, _, h, h' => by simp only [RepDs, List.cons_append] at h ⊢; exact ⟨h.1, RepDs.append h.2 h'⟩

/-- An object in memory. -/
def ObjOK (w : World) (I : Nat → Prop) (ob : Heap) (μ : Nat → Value) (o : Nat) : Obj → Prop
  | .box cells => ∃ b c e, μ o = .pointer (some ⟨b, 0, none⟩) ∧ w.heap[b]? = some (.cells c e (0, 0)) ∧ RepL w I ob μ c.toList cells
  | .row _ _ s elems => 0 < s ∧ (∀ e ∈ elems, e.length = s) ∧ ∃ xs, OwnRow w s (μ o) elems.length xs ∧ RepDs w I xs (flatD elems)

/-- Nothing that was there is turned, but for the blocks M. -/
structure Fr (w0 w : World) (M : Nat → Prop) : Prop where
  os : w.os = w0.os
  tape : w.tape = w0.tape
  output : w.output = w0.output
  size : w0.heap.size ≤ w.heap.size
  block : ∀ b, b < w0.heap.size → ¬ M b → w.heap[b]? = w0.heap[b]?

theorem Fr.refl (w : World) (M : Nat → Prop) : Fr w w M := ⟨rfl, rfl, rfl, Nat.le_refl _, fun _ _ _ => rfl⟩

/-- the blocks that nobody writes; B: those that are looked at -/
def Imm (B : Nat → Prop) (w : World) (ob : Heap) (μ : Nat → Value) (b : Nat) : Prop := b < w.heap.size ∧ (∀ o x, ob o = some x → muta x = true → blockOf (μ o) ≠ some b) ∧ B b

structure Rel (B : Nat → Prop) (w0 : World) (M : Nat → Prop) (U : Nat → Prop) (w : World) (μ : Nat → Value) (ob : Heap) : Prop where
  fr : Fr w0 w M
  used : ∀ o x, ob o = some x → U o ∧ ∀ o' ∈ refsO (some x), U o'
  ok : ∀ o x, ob o = some x → ObjOK w (Imm B w ob μ) ob μ o x
  own : ∀ o x b, ob o = some x → blockOf (μ o) = some b → M b ∨ w0.heap.size ≤ b
  new : ∀ b, w0.heap.size ≤ b → B b
  inB : ∀ o x b, ob o = some x → blockOf (μ o) = some b → B b
  inj : ∀ o o' x x' b, ob o = some x → ob o' = some x' → blockOf (μ o) = some b → blockOf (μ o') = some b → o = o'

/-- a value, and that its references have been given out -/
def Val (B : Nat → Prop) (U : Nat → Prop) (w : World) (μ : Nat → Value) (ob : Heap) (v : Value) (x : V) : Prop :=
  RepV w (Imm B w ob μ) ob μ v x ∧ ∀ o ∈ refsV x, U o

end Go.Proofs.Am
set_option linter.unusedVariables false
namespace Go.Proofs.Am
open Go

theorem ObjOK.mono {w w' : World} {I I' : Nat → Prop} {ob ob' : Heap} {μ μ' : Nat → Value} {o : Nat} {x : Obj}
    (hI : ∀ b, I b → I' b) (hw : ∀ b, I b → w'.heap[b]? = w.heap[b]?) (hb : ∀ b, blockOf (μ o) = some b → w'.heap[b]? = w.heap[b]?) (hm : μ' o = μ o)
    (hk : ∀ o' ∈ refsO (some x), Keep ob μ ob' μ' o') (h : ObjOK w I ob μ o x) : ObjOK w' I' ob' μ' o x := by
  cases x with
  | box cells =>
    obtain ⟨b, c, e, h1, h2, h3⟩ := h
    refine ⟨b, c, e, hm.trans h1, ?_, RepL.mono hI hw cells _ hk h3⟩
    rw [hb b (by rw [h1]; rfl)]
    exact h2
  | row v f s elems =>
    obtain ⟨h1, h2, xs, ⟨h3, h4⟩, h5⟩ := h
    refine ⟨h1, h2, xs, ⟨h3, ?_⟩, h5.mono hI hw⟩
    rw [hm]
    rcases h4 with h4 | ⟨g, cap, cur, e, h6, h7, h8⟩
    · exact .inl h4
    · refine .inr ⟨g, cap, cur, e, h6, ?_, h8⟩
      rw [hb g (by rw [h6]; rfl)]
      exact h7

section
variable {w0 : World} {B M U U' : Nat → Prop} {w w' : World} {μ μ' : Nat → Value} {ob ob' : Heap}

theorem Rel.weaken (R : Rel B w0 M U w μ ob) (h : ∀ o, U o → U' o) : Rel B w0 M U' w μ ob :=
  ⟨R.fr, fun o x hx => ⟨h _ (R.used o x hx).1, fun o' ho => h _ ((R.used o x hx).2 o' ho)⟩, R.ok, R.own, R.new, R.inB, R.inj⟩

/-- An object's block lies in the heap. -/
theorem Rel.lt (R : Rel B w0 M U w μ ob) {o : Nat} {x : Obj} {b : Nat} (hx : ob o = some x) (hb : blockOf (μ o) = some b) : b < w.heap.size := by
  have h := R.ok o x hx
  cases x with
  | box cells =>
    obtain ⟨b', c, e, h1, h2, h3⟩ := h
    rw [h1] at hb
    have : b' = b := by simpa [blockOf] using hb
    subst this
    exact (Array.getElem?_eq_some_iff.1 h2).1
  | row v f s elems =>
    obtain ⟨h1, h2, xs, ⟨h3, h4⟩, h5⟩ := h
    rcases h4 with ⟨h4, _⟩ | ⟨g, cap, cur, e, h6, h7, h8⟩
    · rw [h4] at hb; simp [blockOf] at hb
    · rw [h6] at hb
      have : g = b := by simpa [blockOf] using hb
      subst this
      exact (Array.getElem?_eq_some_iff.1 h7).1

/-- THE STEP: some objects are as they were, the others are given anew. -/
theorem Rel.change (R : Rel B w0 M U w μ ob) (hfr : Fr w0 w' M) (hU : ∀ o, U o → U' o)
    (hI : ∀ b, Imm B w ob μ b → Imm B w' ob' μ' b) (hw : ∀ b, Imm B w ob μ b → w'.heap[b]? = w.heap[b]?)
    (hkeep : ∀ o, U o → Keep ob μ ob' μ' o)
    (hobj : ∀ o x, ob' o = some x → (ob o = some x ∧ μ' o = μ o ∧ ∀ b, blockOf (μ o) = some b → w'.heap[b]? = w.heap[b]?) ∨
      (U' o ∧ (∀ o' ∈ refsO (some x), U' o') ∧ ObjOK w' (Imm B w' ob' μ') ob' μ' o x ∧
        (∀ b, blockOf (μ' o) = some b → M b ∨ w0.heap.size ≤ b) ∧ (∀ b, blockOf (μ' o) = some b → B b)))
    (hinj : ∀ o o' x x' b, ob' o = some x → ob' o' = some x' → blockOf (μ' o) = some b → blockOf (μ' o') = some b → o = o') :
    Rel B w0 M U' w' μ' ob' where
  fr := hfr
  used := fun o x hx => by
    rcases hobj o x hx with ⟨h1, _, _⟩ | ⟨h1, h2, _⟩
    · exact ⟨hU _ (R.used o x h1).1, fun o' ho => hU _ ((R.used o x h1).2 o' ho)⟩
    · exact ⟨h1, h2⟩
  ok := fun o x hx => by
    rcases hobj o x hx with ⟨h1, h2, h3⟩ | ⟨_, _, h3, _⟩
    · exact (R.ok o x h1).mono hI hw h3 h2 fun o' ho => hkeep o' ((R.used o x h1).2 o' ho)
    · exact h3
  own := fun o x b hx hb => by
    rcases hobj o x hx with ⟨h1, h2, h3⟩ | ⟨_, _, _, h4⟩
    · exact R.own o x b h1 (h2 ▸ hb)
    · exact h4.1 b hb
  new := R.new
  inB := fun o x b hx hb => by
    rcases hobj o x hx with ⟨h1, h2, h3⟩ | ⟨_, _, _, h4⟩
    · exact R.inB o x b h1 (h2 ▸ hb)
    · exact h4.2 b hb
  inj := hinj

theorem Val.keep {v : Value} {x : V} (h : Val B U w μ ob v x) (hU : ∀ o, U o → U' o)
    (hI : ∀ b, Imm B w ob μ b → Imm B w' ob' μ' b) (hw : ∀ b, Imm B w ob μ b → w'.heap[b]? = w.heap[b]?)
    (hkeep : ∀ o, U o → Keep ob μ ob' μ' o) : Val B U' w' μ' ob' v x :=
  ⟨RepV.mono hI hw x v (fun o ho => hkeep o (h.2 o ho)) h.1, fun o ho => hU o (h.2 o ho)⟩

/-- What a step gives: the relation anew, and that every value that was one is one. -/
structure Step (B : Nat → Prop) (w0 : World) (M U U' : Nat → Prop) (w w' : World) (μ μ' : Nat → Value) (ob ob' : Heap) : Prop where
  rel : Rel B w0 M U' w' μ' ob'
  hU : ∀ o, U o → U' o
  hI : ∀ b, Imm B w ob μ b → Imm B w' ob' μ' b
  hw : ∀ b, Imm B w ob μ b → w'.heap[b]? = w.heap[b]?
  hkeep : ∀ o, U o → Keep ob μ ob' μ' o
  hnone : ∀ o, U o → ob o = none → ob' o = none

theorem Step.refl (R : Rel B w0 M U w μ ob) : Step B w0 M U U w w μ μ ob ob := ⟨R, fun _ h => h, fun _ h => h, fun _ _ => rfl, fun o _ => Keep.refl ob μ o, fun _ _ h => h⟩
theorem Step.val (S : Step B w0 M U U' w w' μ μ' ob ob') {v : Value} {x : V} (h : Val B U w μ ob v x) : Val B U' w' μ' ob' v x := h.keep S.hU S.hI S.hw S.hkeep

theorem Keep.trans {ob1 ob2 ob3 : Heap} {μ1 μ2 μ3 : Nat → Value} {o : Nat} (hnew : ob2 o = none → ob3 o = none) (h : Keep ob1 μ1 ob2 μ2 o) (k : Keep ob2 μ2 ob3 μ3 o) : Keep ob1 μ1 ob3 μ3 o := by
  unfold Keep at *
  cases h3 : ob3 o with
  | none => cases ob1 o <;> trivial
  | some z =>
    cases h2 : ob2 o with
    | none => rw [hnew h2] at h3; cases h3
    | some y =>
      cases h1 : ob1 o with
      | none => simp [h1, h2] at h
      | some x =>
        rw [h1, h2] at h
        rw [h2, h3] at k
        cases x <;> cases y <;> cases z <;> simp only at h k ⊢
        · exact k.trans h
        · refine ⟨Nat.le_trans h.1 k.1, fun e => ?_⟩
          have e1 : _ = _ := Nat.le_antisymm (e ▸ k.1) h.1
          obtain ⟨hs, hm⟩ := h.2 e1
          obtain ⟨ks, km⟩ := k.2 (e.trans e1.symm)
          exact ⟨ks.trans hs, km.trans hm⟩

/-- A world that has drawn. -/
theorem Rel.drew (R : Rel B w0 M U w μ ob) (n : Nat) : Step B w0 M U U w { w with drawn := n } μ μ ob ob := by
  have hI : ∀ b, Imm B w ob μ b → Imm B { w with drawn := n } ob μ b := fun b h => h
  refine ⟨R.change (w' := { w with drawn := n }) ⟨R.fr.os, R.fr.tape, R.fr.output, R.fr.size, R.fr.block⟩ (fun _ h => h) hI (fun _ _ => rfl) (fun o _ => Keep.refl ob μ o) (fun o x hx => .inl ⟨hx, rfl, fun _ _ => rfl⟩) R.inj, fun _ h => h, hI, fun _ _ => rfl, fun o _ => Keep.refl ob μ o, fun _ _ h => h⟩

/-- Objects fall away. -/
theorem Rel.drop (R : Rel B w0 M U w μ ob) (h : ∀ o x, ob' o = some x → ob o = some x) : Step B w0 M U U w w μ μ ob ob' := by
  have hI : ∀ b, Imm B w ob μ b → Imm B w ob' μ b := fun b hb => ⟨hb.1, fun o x hx => hb.2.1 o x (h o x hx), hb.2.2⟩
  have hk : ∀ o, U o → Keep ob μ ob' μ o := fun o _ => by
    cases ho : ob' o with
    | none => unfold Keep; rw [ho]; cases ob o <;> trivial
    | some x => exact Keep.same (ho.trans (h o x ho).symm) rfl
  exact ⟨R.change R.fr (fun _ h => h) hI (fun _ _ => rfl) hk (fun o x hx => .inl ⟨h o x hx, rfl, fun _ _ => rfl⟩)
    (fun o o' x x' b h1 h2 => R.inj o o' x x' b (h o x h1) (h o' x' h2)), fun _ h => h, hI, fun _ _ => rfl, hk, fun o _ h0 => by
      cases h1 : ob' o with
      | none => rfl
      | some x => rw [h o x h1] at h0; cases h0⟩

theorem upd_some {f : Heap} {n m : Nat} {a : Option Obj} {x : Obj} (h : upd f n a m = some x) : (m = n ∧ a = some x) ∨ (m ≠ n ∧ f m = some x) := by
  unfold upd at h
  split at h
  · exact .inl ⟨by assumption, h⟩
  · exact .inr ⟨by assumption, h⟩

/-- A new block, and a new object in it. 'val': where it lies. -/
theorem Rel.alloc (R : Rel B w0 M U w μ ob) (id : Nat) (hid : ¬ U id) (y : Go.Obj) (val : Value) (x : Obj)
    (hval : blockOf val = some w.heap.size) (hrefs : ∀ o ∈ refsO (some x), U o)
    (hok : ∀ (w' : World) (ob' : Heap) (μ' : Nat → Value), w' = w.alloc y → μ' id = val → (∀ b, Imm B w ob μ b → Imm B w' ob' μ' b) → (∀ b, Imm B w ob μ b → w'.heap[b]? = w.heap[b]?) → (∀ o, U o → Keep ob μ ob' μ' o) → ObjOK w' (Imm B w' ob' μ') ob' μ' id x) :
    Step B w0 M U (fun o => U o ∨ o = id) w (w.alloc y) μ (upd μ id val) ob (upd ob id (some x)) := by
  have hnone : ob id = none := by
    cases h : ob id with
    | none => rfl
    | some z => exact absurd (R.used id z h).1 hid
  have hne : ∀ o, U o → o ≠ id := fun o h e => hid (e ▸ h)
  have hheap : ∀ b, b < w.heap.size → (w.alloc y).heap[b]? = w.heap[b]? := fun b hb => by
    show (w.heap.push y)[b]? = _
    rw [Array.getElem?_push, if_neg (by omega)]
  have hI : ∀ b, Imm B w ob μ b → Imm B (w.alloc y) (upd ob id (some x)) (upd μ id val) b := fun b hb => by
    refine ⟨by have := hb.1; simp; omega, fun o z hz hm => ?_, hb.2.2⟩
    · rcases upd_some hz with ⟨rfl, _⟩ | ⟨ho, hz⟩
      · rw [upd_eq, hval]
        have := hb.1
        intro e
        cases e
        omega
      · rw [upd_ne _ _ ho]
        exact hb.2.1 o z hz hm
  have hw : ∀ b, Imm B w ob μ b → (w.alloc y).heap[b]? = w.heap[b]? := fun b hb => hheap b hb.1
  have hk : ∀ o, U o → Keep ob μ (upd ob id (some x)) (upd μ id val) o := fun o ho => Keep.same (upd_ne _ _ (hne o ho)) (upd_ne _ _ (hne o ho))
  refine ⟨R.change ⟨R.fr.os, R.fr.tape, R.fr.output, ?_, fun b hb hM => ?_⟩ (fun _ h => .inl h) hI hw hk (fun o z hz => ?_) ?_, fun _ h => .inl h, hI, hw, hk, fun o ho h0 => (upd_ne _ _ (hne o ho)).trans h0⟩
  · have := R.fr.size
    simp
    omega
  · rw [hheap b (Nat.lt_of_lt_of_le hb R.fr.size)]
    exact R.fr.block b hb hM
  · rcases upd_some hz with ⟨rfl, he⟩ | ⟨ho, hz⟩
    · cases he
      have hnew : ∀ b, blockOf (upd μ o val o) = some b → w0.heap.size ≤ b := fun b hb => by
        rw [upd_eq, hval] at hb
        have := R.fr.size
        cases hb
        exact this
      exact .inr ⟨.inr rfl, fun o' ho' => .inl (hrefs o' ho'), hok _ _ _ rfl (upd_eq _ _ _) hI hw hk, fun b hb => .inr (hnew b hb), fun b hb => R.new b (hnew b hb)⟩
    · refine .inl ⟨hz, upd_ne _ _ ho, fun b hb => hheap b (R.lt hz hb)⟩
  · intro o o' z z' b h1 h2 hb hb'
    rcases upd_some h1 with ⟨e1, _⟩ | ⟨ho, h3⟩ <;> rcases upd_some h2 with ⟨e2, _⟩ | ⟨ho', h4⟩
    · rw [e1, e2]
    · rw [e1, upd_eq, hval] at hb
      rw [upd_ne _ _ ho'] at hb'
      have := R.lt h4 hb'
      cases hb
      omega
    · rw [e2, upd_eq, hval] at hb'
      rw [upd_ne _ _ ho] at hb
      have := R.lt h3 hb
      cases hb'
      omega
    · rw [upd_ne _ _ ho] at hb
      rw [upd_ne _ _ ho'] at hb'
      exact R.inj o o' z z' b h3 h4 hb hb'

/-- A write into the block of one object, which is given anew in its place. -/
theorem Rel.write (R : Rel B w0 M U w μ ob) (o : Nat) (x x' : Obj) (hx : ob o = some x) (hm : muta x = true) (g : Nat) (hg : blockOf (μ o) = some g) (cs : Array Value)
    (hrefs : ∀ o' ∈ refsO (some x'), U o')
    (hkeepo : Keep ob μ (upd ob o (some x')) μ o)
    (hok : ∀ (w' : World) (ob' : Heap), w' = w.setRow g cs → (∀ b, Imm B w ob μ b → Imm B w' ob' μ b) → (∀ b, Imm B w ob μ b → w'.heap[b]? = w.heap[b]?) → (∀ o, U o → Keep ob μ ob' μ o) → ObjOK w' (Imm B w' ob' μ) ob' μ o x') :
    Step B w0 M U U w (w.setRow g cs) μ μ ob (upd ob o (some x')) := by
  have hheap : ∀ b, b ≠ g → (w.setRow g cs).heap[b]? = w.heap[b]? := fun b hb => setRow_other w g b cs hb
  have hI : ∀ b, Imm B w ob μ b → Imm B (w.setRow g cs) (upd ob o (some x')) μ b := fun b hb => by
    refine ⟨by rw [setRow_size]; exact hb.1, fun o' z hz hmz => ?_, hb.2.2⟩
    rcases upd_some hz with ⟨rfl, _⟩ | ⟨ho, hz⟩
    · exact hb.2.1 o' x hx hm
    · exact hb.2.1 o' z hz hmz
  have hne : ∀ b, Imm B w ob μ b → b ≠ g := fun b hb e => hb.2.1 o x hx hm (e ▸ hg)
  have hw : ∀ b, Imm B w ob μ b → (w.setRow g cs).heap[b]? = w.heap[b]? := fun b hb => hheap b (hne b hb)
  have hk : ∀ o', U o' → Keep ob μ (upd ob o (some x')) μ o' := fun o' ho' => by
    by_cases e : o' = o
    · subst e; exact hkeepo
    · exact Keep.same (upd_ne _ _ e) rfl
  refine ⟨R.change ⟨R.fr.os, R.fr.tape, R.fr.output, by rw [setRow_size]; exact R.fr.size, fun b hb hM => ?_⟩ (fun _ h => h) hI hw hk (fun o' z hz => ?_) ?_, fun _ h => h, hI, hw, hk, fun o' _ h0 => (upd_ne _ _ fun e => by subst e; rw [hx] at h0; cases h0).trans h0⟩
  · have hbg : b ≠ g := fun e => by
      subst e
      rcases R.own o x b hx hg with h | h
      · exact hM h
      · omega
    rw [hheap b hbg]
    exact R.fr.block b hb hM
  · rcases upd_some hz with ⟨rfl, he⟩ | ⟨ho, hz⟩
    · cases he
      exact .inr ⟨(R.used o' x hx).1, hrefs, hok _ _ rfl hI hw hk, fun b hb => R.own o' x b hx hb, fun b hb => R.inB o' x b hx hb⟩
    · refine .inl ⟨hz, rfl, fun b hb => hheap b fun e => ?_⟩
      subst e
      exact ho (R.inj o' o z x b hz hx hb hg)
  · intro o1 o2 z z' b h1 h2 hb hb'
    rcases upd_some h1 with ⟨e1, _⟩ | ⟨_, h3⟩ <;> rcases upd_some h2 with ⟨e2, _⟩ | ⟨_, h4⟩
    · rw [e1, e2]
    · rw [e1] at hb ⊢; exact R.inj _ _ _ _ b hx h4 hb hb'
    · rw [e2] at hb' ⊢; exact R.inj _ _ _ _ b h3 hx hb hb'
    · exact R.inj _ _ _ _ b h3 h4 hb hb'

/-- A row is frozen. -/
theorem Rel.freeze (R : Rel B w0 M U w μ ob) (o v s : Nat) (f : Bool) (elems : List (List D)) (hx : ob o = some (.row v f s elems)) :
    Step B w0 M U U w w μ μ ob (upd ob o (some (.row v true s elems))) := by
  have hI : ∀ b, Imm B w ob μ b → Imm B w (upd ob o (some (.row v true s elems))) μ b := fun b hb => by
    refine ⟨hb.1, fun o' z hz hmz => ?_, hb.2.2⟩
    rcases upd_some hz with ⟨rfl, he⟩ | ⟨ho, hz⟩
    · cases he; simp [muta] at hmz
    · exact hb.2.1 o' z hz hmz
  have hk : ∀ o', U o' → Keep ob μ (upd ob o (some (.row v true s elems))) μ o' := fun o' ho' => by
    by_cases e : o' = o
    · subst e
      unfold Keep
      rw [hx, upd_eq]
      simp
    · exact Keep.same (upd_ne _ _ e) rfl
  refine ⟨R.change R.fr (fun _ h => h) hI (fun _ _ => rfl) hk (fun o' z hz => ?_) ?_, fun _ h => h, hI, fun _ _ => rfl, hk, fun o' _ h0 => (upd_ne _ _ fun e => by subst e; rw [hx] at h0; cases h0).trans h0⟩
  · rcases upd_some hz with ⟨rfl, he⟩ | ⟨ho, hz⟩
    · cases he
      refine .inr ⟨(R.used o' _ hx).1, by simp [refsO], ?_, fun b hb => R.own o' _ b hx hb, fun b hb => R.inB o' _ b hx hb⟩
      have h := R.ok o' _ hx
      exact ObjOK.mono (ob := ob) (x := .row v true s elems) hI (fun _ _ => rfl) (fun _ _ => rfl) rfl (by simp [refsO]) h
    · exact .inl ⟨hz, rfl, fun _ _ => rfl⟩
  · intro o1 o2 z z' b h1 h2 hb hb'
    rcases upd_some h1 with ⟨e1, _⟩ | ⟨_, h3⟩ <;> rcases upd_some h2 with ⟨e2, _⟩ | ⟨_, h4⟩
    · rw [e1, e2]
    · rw [e1] at hb ⊢; exact R.inj _ _ _ _ b hx h4 hb hb'
    · rw [e2] at hb' ⊢; exact R.inj _ _ _ _ b h3 hx hb hb'
    · exact R.inj _ _ _ _ b h3 h4 hb hb'
end

/-- Steps one behind the other; what fell away doesn't come back. -/
theorem Step.trans {B : Nat → Prop} {w0 : World} {M U1 U2 U3 : Nat → Prop} {w1 w2 w3 : World} {μ1 μ2 μ3 : Nat → Value} {ob1 ob2 ob3 : Heap}
    (h : Step B w0 M U1 U2 w1 w2 μ1 μ2 ob1 ob2) (k : Step B w0 M U2 U3 w2 w3 μ2 μ3 ob2 ob3) : Step B w0 M U1 U3 w1 w3 μ1 μ3 ob1 ob3 :=
  ⟨k.rel, fun o ho => k.hU o (h.hU o ho), fun b hb => k.hI b (h.hI b hb), fun b hb => (k.hw b (h.hI b hb)).trans (h.hw b hb),
    fun o ho => Keep.trans (k.hnone o (h.hU o ho)) (h.hkeep o ho) (k.hkeep o (h.hU o ho)), fun o ho h0 => k.hnone o (h.hU o ho) (h.hnone o ho h0)⟩

end Go.Proofs.Am
set_option linter.unusedVariables false
namespace Go.Proofs.Am
open Go

section
variable {P : Program} {w : World}

theorem run_und {t : TypeId} {d : TypeDesc} (h : P.underlying t = some d) : (underlying t).run P w = .ok d w := by
  simp [underlying, h]
theorem run_info {t : TypeId} {i : TypeInfo} (h : P.info? t = some i) : (typeInfo t).run P w = .ok i w := by
  simp [typeInfo, h]
theorem run_isAggT {t : TypeId} {g : Bool} (h : isAggT P t = some g) : (isAgg t).run P w = .ok g w := by
  unfold isAggT at h
  cases hu : P.underlying t with
  | none => simp [hu] at h
  | some d =>
    rw [hu] at h
    simp only [isAgg, Sem.run_bind, run_und hu, Result.andThen_ok]
    cases d <;> simp_all
theorem run_sizeT {t : TypeId} {n : Nat} (h : sizeT P t = some n) : (sizeOf t).run P w = .ok n w := by
  unfold sizeT at h
  cases hi : P.info? t with
  | none => simp [hi] at h
  | some i => simp [hi] at h; simp [sizeOf, run_info hi, h]
theorem run_zeroT {t : TypeId} {z : Value} (h : zeroT P t = some z) : (zeroValue t).run P w = .ok z w := by
  unfold zeroT at h
  cases hi : P.info? t with
  | none => simp [hi] at h
  | some i => simp [hi] at h; simp [zeroValue, run_info hi, h]
theorem info_of_size {t : TypeId} {n : Nat} (h : sizeT P t = some n) : ∃ i, P.info? t = some i ∧ i.size = n := by
  unfold sizeT at h
  cases hi : P.info? t with
  | none => simp [hi] at h
  | some i => exact ⟨i, rfl, by simpa [hi] using h⟩
theorem und_of_slice {t e : TypeId} (h : sliceE P t = some e) : P.underlying t = some (.slice e) := by
  unfold sliceE at h
  split at h <;> simp_all

theorem run_loadVar' {t : TypeId} {g : Bool} {n : Nat} (hg : isAggT P t = some g) (hn : sizeT P t = some n) (a : Addr) (cs : List Value) (hc : cs.length = n)
    (hcell : ∀ (j : Nat) v, cs[j]? = some v → w.cell? (a.add j) = some v) (h1 : g = false → n = 1) :
    (loadVar t a).run P w = .ok (if g then .agg cs.toArray else cs.headD undef) w := by
  simp only [loadVar, Sem.run_bind, run_isAggT hg, Result.andThen_ok]
  cases g with
  | true =>
    subst hc
    simp [run_sizeT hn, run_loadCells_list w a cs hcell]
  | false =>
    have := h1 rfl
    obtain ⟨v, rfl⟩ : ∃ v, cs = [v] := by
      cases cs with
      | nil => simp at hc; omega
      | cons v r => cases r with
        | nil => exact ⟨v, rfl⟩
        | cons _ _ => simp at hc; omega
    have h0 := hcell 0 v rfl
    have ha : a.add 0 = a := by simp [Addr.add]
    rw [ha] at h0
    simp [h0]

theorem run_storeVar' {t : TypeId} {n : Nat} (hn : sizeT P t = some n) (g o : Nat) (e : TypeId) (v : Value) (hv : v.cells.size = n) (cur : Array Value)
    (hg : w.heap[g]? = some (.cells cur e (0, 0))) (hl : o + n ≤ cur.size) (h1 : ∀ u ∈ v.cells.toList, u.oneCell' = true) :
    (storeVar t ⟨g, o, none⟩ v).run P w = .ok () (w.setRow g (cur.toList.take o ++ v.cells.toList ++ cur.toList.drop (o + n)).toArray) := by
  have h := run_storeCells_at (P := P) g o e v.cells.toList 0 cur w hg (by simp [hv]; omega) h1
  simp only [storeVar, Sem.run_bind, run_sizeT hn, Result.andThen_ok]
  simp [hv]
  simpa [hv] using h
end

theorem add_none (b o k : Nat) : (⟨b, o, none⟩ : Addr).add k = ⟨b, o + k, none⟩ := by unfold Addr.add; split <;> simp_all

/-! ### Flat rows -/
theorem flat_length {s : Nat} : ∀ {elems : List (List D)}, (∀ e ∈ elems, e.length = s) → (flatD elems).length = elems.length * s
  | [], _ => by simp [flatD]
  | e :: r, h => by
    have h1 := h e (by simp)
    have h2 := flat_length (elems := r) (s := s) fun x hx => h x (by simp [hx])
    simp only [flatD, List.flatten_cons, List.length_append, List.length_cons] at *
    rw [h1, h2, Nat.add_mul, Nat.one_mul, Nat.add_comm]
theorem flat_at {s : Nat} : ∀ {elems : List (List D)} (h : ∀ e ∈ elems, e.length = s) {i j : Nat} {e : List D} {d : D}, elems[i]? = some e → e[j]? = some d → (flatD elems)[i * s + j]? = some d
  | [], _, i, j, e, d, h1, _ => by simp at h1
  | x :: r, h, i, j, e, d, h1, h2 => by
    have hx := h x (by simp)
    simp only [flatD, List.flatten_cons]
    cases i with
    | zero =>
      simp at h1
      subst h1
      have hj : j < x.length := (List.getElem?_eq_some_iff.1 h2).1
      rw [Nat.zero_mul, Nat.zero_add, List.getElem?_append_left hj]
      exact h2
    | succ i =>
      simp at h1
      have ih := flat_at (elems := r) (fun y hy => h y (by simp [hy])) h1 h2
      rw [List.getElem?_append_right (by rw [hx, Nat.add_mul]; omega)]
      have : (i + 1) * s + j - x.length = i * s + j := by rw [hx, Nat.add_mul]; omega
      rw [this]
      exact ih
theorem flat_append (a b : List (List D)) : flatD (a ++ b) = flatD a ++ flatD b := by simp [flatD]

theorem OwnRow.cell {w : World} {s n : Nat} {v : Value} {xs : List Value} (h : OwnRow w s v n xs) {b m c : Nat} (hv : v = .slice (some ⟨b, 0, none⟩) m c) :
    m = n ∧ ∀ (k : Nat) u, xs[k]? = some u → w.cell? ⟨b, k, none⟩ = some u := by
  obtain ⟨hl, h | ⟨g, cap, cur, e, h1, h2, h3, h4, h5, h6⟩⟩ := h
  · rw [h.1] at hv; cases hv
  · rw [h1] at hv
    cases hv
    refine ⟨rfl, fun k u hu => ?_⟩
    rw [← h6] at hu
    have hk : k < n * s := by
      have := (List.getElem?_eq_some_iff.1 hu).1
      simp at this
      omega
    rw [List.getElem?_take_of_lt hk] at hu
    simp only [World.cell?, h2]
    simpa using hu

theorem Rel.row {w0 : World} {B M U : Nat → Prop} {w : World} {μ : Nat → Value} {ob : Heap} (R : Rel B w0 M U w μ ob) {o v s : Nat} {f : Bool} {elems : List (List D)} (hx : ob o = some (.row v f s elems)) :
    0 < s ∧ (∀ e ∈ elems, e.length = s) ∧ ∃ xs, OwnRow w s (μ o) elems.length xs ∧ RepDs w (Imm B w ob μ) xs (flatD elems) := R.ok o _ hx

/-- a cell of a row of the call's own -/
theorem Rel.rowCell {w0 : World} {B M U : Nat → Prop} {w : World} {μ : Nat → Value} {ob : Heap} (R : Rel B w0 M U w μ ob) {o v s : Nat} {f : Bool} {elems : List (List D)} (hx : ob o = some (.row v f s elems))
    {b n c : Nat} (hm : μ o = .slice (some ⟨b, 0, none⟩) n c) {i j : Nat} {e : List D} {d : D} (h1 : elems[i]? = some e) (h2 : e[j]? = some d) :
    ∃ u, w.cell? ⟨b, i * s + j, none⟩ = some u ∧ RepD w (Imm B w ob μ) u d ∧ u.oneCell' = true := by
  obtain ⟨hs, hl, xs, hown, hrep⟩ := R.row hx
  obtain ⟨u, hu, hr, ho⟩ := hrep.at _ _ (flat_at hl h1 h2)
  exact ⟨u, (hown.cell hm).2 _ _ hu, hr, ho⟩

/-! ### Values: what they must be -/
section
variable {w : World} {I : Nat → Prop} {ob : Heap} {μ : Nat → Value}
theorem RepV.bool {v : Value} {b : Bool} (h : RepV w I ob μ v (.d (.bool b))) : v = .bool b := by
  simp only [RepV] at h
  cases h.1; rfl
theorem RepV.int {v : Value} {k : IntKind} {n : Int} (h : RepV w I ob μ v (.d (.int k n))) : v = .int k n := by
  simp only [RepV] at h
  cases h.1; rfl
theorem RepV.str {v : Value} {s : ByteArray} (h : RepV w I ob μ v (.d (.str s))) : v = .string s := by
  simp only [RepV] at h
  cases h.1; rfl
theorem RepV.mkBool (b : Bool) : RepV w I ob μ (.bool b) (.d (.bool b)) := by simp only [RepV]; exact ⟨.bool b, rfl⟩
theorem RepV.mkInt (k : IntKind) (n : Int) : RepV w I ob μ (.int k n) (.d (.int k n)) := by simp only [RepV]; exact ⟨.int k n, rfl⟩
theorem RepV.mkStr (s : ByteArray) : RepV w I ob μ (.string s) (.d (.str s)) := by simp only [RepV]; exact ⟨.str s, rfl⟩

/-- The cells of a value that may be laid into memory. -/
theorem RepV.cells {v : Value} {x : V} {cs : List V} (h : RepV w I ob μ v x) (hc : cellsOf x = some cs) : RepL w I ob μ v.cells.toList cs := by
  cases x with
  | d x =>
    simp only [cellsOf, Option.some.injEq] at hc
    subst hc
    have h' := h
    simp only [RepV] at h'
    have : v.cells = #[v] := by cases v <;> simp_all [Value.cells, Value.oneCell']
    rw [this]
    simp only [RepL, and_true]
    exact ⟨h, h'.2⟩
  | nsl =>
    simp only [cellsOf, Option.some.injEq] at hc
    subst hc
    have h' := h
    simp only [RepV] at h'
    subst h'
    simp only [Value.cells, RepL, and_true]
    exact ⟨h, rfl⟩
  | agg cells =>
    simp only [cellsOf, Option.some.injEq] at hc
    subst hc
    simp only [RepV] at h
    obtain ⟨cs, rfl, hl⟩ := h
    exact hl
  | ref o ver i j =>
    simp only [cellsOf, Option.some.injEq] at hc
    subst hc
    have h' := h
    simp only [RepV] at h'
    have : v.cells = #[v] := by cases v <;> simp_all [Value.cells, Value.oneCell']
    rw [this]
    simp only [RepL, and_true]
    exact ⟨h, h'.1⟩
  | own o ver =>
    simp only [cellsOf, Option.some.injEq] at hc
    subst hc
    have h' := h
    simp only [RepV] at h'
    have : v.cells = #[v] := by cases v <;> simp_all [Value.cells, Value.oneCell']
    rw [this]
    simp only [RepL, and_true]
    exact ⟨h, h'.1⟩
  | osl o ver off len =>
    simp only [cellsOf, Option.some.injEq] at hc
    subst hc
    have h' := h
    simp only [RepV] at h'
    have : v.cells = #[v] := by cases v <;> simp_all [Value.cells, Value.oneCell']
    rw [this]
    simp only [RepL, and_true]
    exact ⟨h, h'.1⟩
  | fn f caps =>
    simp only [cellsOf, Option.some.injEq] at hc
    subst hc
    have h' := h
    simp only [RepV] at h'
    obtain ⟨cs, rfl, _⟩ := h'
    simp only [Value.cells, RepL, and_true]
    exact ⟨h, rfl⟩
  | tup vs => simp [cellsOf] at hc
  | undef => simp [cellsOf] at hc
  | dead => simp [cellsOf] at hc
theorem RepV.one1 {v : Value} {x : V} (h : RepV w I ob μ v x) (hx : Am.one1 x = true) : v.oneCell' = true := by
  cases x <;> simp only [Am.one1, Bool.false_eq_true] at hx <;> simp only [RepV] at h
  · exact h.2
  · subst h; rfl
  · exact h.1
  · exact h.1
  · exact h.1
  · obtain ⟨cs, rfl, _⟩ := h; rfl
theorem refs_cells {x : V} {cs : List V} (hc : cellsOf x = some cs) : refsL cs = refsV x := by
  cases x <;> simp only [cellsOf, Option.some.injEq, reduceCtorEq] at hc <;> subst hc <;> simp [refsL, refsV]

theorem RepL.part {vs : List Value} {xs : List V} (h : RepL w I ob μ vs xs) (j n : Nat) : RepL w I ob μ (Am.part vs j n) (Am.part xs j n) := by
  refine RepL.mk (by simp [Am.part, h.length]) fun i v x h1 h2 => ?_
  simp only [Am.part, List.getElem?_take] at h1 h2
  split at h1
  · rename_i hi
    rw [if_pos hi] at h2
    rw [List.getElem?_drop] at h1 h2
    exact h.at _ _ _ h1 h2
  · cases h1
theorem RepL.one {vs : List Value} {xs : List V} (h : RepL w I ob μ vs xs) : ∀ v ∈ vs, v.oneCell' = true := by
  intro v hv
  obtain ⟨i, hi⟩ := List.getElem?_of_mem hv
  have hlt := (List.getElem?_eq_some_iff.1 hi).1
  have : i < xs.length := by rw [← h.length]; exact hlt
  exact (h.at i v xs[i] hi (List.getElem?_eq_getElem this)).2
theorem RepL.append {vs ws : List Value} {xs ys : List V} (h : RepL w I ob μ vs xs) (k : RepL w I ob μ ws ys) : RepL w I ob μ (vs ++ ws) (xs ++ ys) := by
  refine RepL.mk (by simp [h.length, k.length]) fun i v x h1 h2 => ?_
  by_cases hi : i < vs.length
  · rw [List.getElem?_append_left hi] at h1
    rw [List.getElem?_append_left (by rw [← h.length]; exact hi)] at h2
    exact h.at i v x h1 h2
  · rw [List.getElem?_append_right (by omega)] at h1
    rw [List.getElem?_append_right (by rw [← h.length]; omega)] at h2
    exact k.at _ v x h1 (by rw [h.length]; exact h2)
theorem refsL_append (a b : List V) : refsL (a ++ b) = refsL a ++ refsL b := by
  induction a with
  | nil => simp [refsL]
  | cons x r ih => simp [refsL, ih]
theorem refsL_mem {l : List V} {x : V} (h : x ∈ l) : ∀ o ∈ refsV x, o ∈ refsL l := by
  induction l with
  | nil => cases h
  | cons y r ih =>
    intro o ho
    simp only [refsL, List.mem_append]
    rcases List.mem_cons.1 h with rfl | h
    · exact .inl ho
    · exact .inr (ih h o ho)
theorem refsL_of {l : List V} {o : Nat} (h : o ∈ refsL l) : ∃ x ∈ l, o ∈ refsV x := by
  induction l with
  | nil => simp [refsL] at h
  | cons y r ih =>
    simp only [refsL, List.mem_append] at h
    rcases h with h | h
    · exact ⟨y, by simp, h⟩
    · obtain ⟨x, hx, ho⟩ := ih h
      exact ⟨x, by simp [hx], ho⟩
theorem refsL_part (l : List V) (j n : Nat) : ∀ o ∈ refsL (Am.part l j n), o ∈ refsL l := by
  intro o ho
  obtain ⟨x, hx, h⟩ := refsL_of ho
  exact refsL_mem (List.mem_of_mem_drop (List.mem_of_mem_take hx)) o h
theorem refsL_d (l : List D) : refsL (l.map .d) = [] := by
  induction l with
  | nil => rfl
  | cons x r ih => simp [refsL, refsV, ih]
theorem RepL.ofDs {vs : List Value} {ds : List D} (h : RepDs w I vs ds) : RepL w I ob μ vs (ds.map .d) := by
  refine RepL.mk (by simp [h.length]) fun i v x h1 h2 => ?_
  rw [List.getElem?_map] at h2
  cases hd : ds[i]? with
  | none => simp [hd] at h2
  | some d =>
    simp [hd] at h2
    subst h2
    obtain ⟨u, hu, hr, ho⟩ := h.at i d hd
    rw [hu] at h1
    cases h1
    simp only [RepV]
    exact ⟨⟨hr, ho⟩, ho⟩
end

theorem setCells_length {α : Type} : ∀ (vs : List α) (cells : List α) (off : Nat), (setCells cells off vs).length = cells.length
  | [], cells, off => rfl
  | v :: r, cells, off => by simp [setCells, setCells_length r]
theorem setCells_eq {α : Type} : ∀ (vs : List α) (cells : List α) (off : Nat), off + vs.length ≤ cells.length → setCells cells off vs = cells.take off ++ vs ++ cells.drop (off + vs.length)
  | [], cells, off, h => by simp [setCells]
  | v :: r, cells, off, h => by
    simp only [List.length_cons] at h
    rw [setCells, setCells_eq r _ _ (by simp; omega)]
    apply List.ext_getElem?
    intro j
    simp only [List.getElem?_append, List.length_take, List.length_append, List.length_set, List.length_cons, List.getElem?_take, List.getElem?_drop, List.getElem?_set]
    by_cases h1 : j < off
    · simp [h1, show j < min (off + 1) cells.length by omega, show j < min off cells.length by omega, show j < min (off + 1) cells.length + r.length by omega, show j < min off cells.length + (r.length + 1) by omega, show off ≠ j by omega, show j < off + 1 by omega]
    · by_cases h2 : j = off
      · subst h2
        simp [show j < min (j + 1) cells.length by omega, show ¬ j < min j cells.length by omega, show j < min (j + 1) cells.length + r.length by omega, show j < min j cells.length + (r.length + 1) by omega, show j - min j cells.length = 0 by omega, show j < cells.length by omega]
      · by_cases h3 : j < off + 1 + r.length
        · have e : j - min off cells.length = (j - min (off + 1) cells.length) + 1 := by omega
          simp [show ¬ j < min (off + 1) cells.length by omega, show ¬ j < min off cells.length by omega, show j < min (off + 1) cells.length + r.length by omega, show j < min off cells.length + (r.length + 1) by omega, e]
        · simp [show ¬ j < min (off + 1) cells.length + r.length by omega, show ¬ j < min off cells.length + (r.length + 1) by omega, show off ≠ off + 1 + r.length + (j - (min (off + 1) cells.length + r.length)) by omega]
          congr 1
          omega

theorem mapO_length {α β : Type} {f : α → Option β} : ∀ {l : List α} {r : List β}, mapO f l = some r → r.length = l.length
  | [], r, h => by simp [mapO] at h; subst h; rfl
  | a :: l, r, h => by
    simp only [mapO, Option.bind_eq_some_iff] at h
    obtain ⟨b, _, l', h2, h3⟩ := h
    cases h3
    simp [mapO_length h2]
theorem mapO_at {α β : Type} {f : α → Option β} : ∀ {l : List α} {r : List β}, mapO f l = some r → ∀ {i : Nat} {a : α}, l[i]? = some a → ∃ b, r[i]? = some b ∧ f a = some b
  | [], r, h, i, a, hi => by simp at hi
  | x :: l, r, h, i, a, hi => by
    simp only [mapO, Option.bind_eq_some_iff] at h
    obtain ⟨b, h1, l', h2, h3⟩ := h
    cases h3
    cases i with
    | zero => simp at hi; subst hi; exact ⟨b, rfl, h1⟩
    | succ i => simpa using mapO_at h2 (i := i) (a := a) (by simpa using hi)
theorem mapO_at' {α β : Type} {f : α → Option β} {l : List α} {r : List β} (h : mapO f l = some r) {i : Nat} {b : β} (hi : r[i]? = some b) : ∃ a, l[i]? = some a ∧ f a = some b := by
  have hlt := (List.getElem?_eq_some_iff.1 hi).1
  rw [mapO_length h] at hlt
  obtain ⟨b', h1, h2⟩ := mapO_at h (List.getElem?_eq_getElem hlt)
  rw [hi] at h1
  cases h1
  exact ⟨_, List.getElem?_eq_getElem hlt, h2⟩

/-! ### Constants -/
section
variable {w : World} {I : Nat → Prop} {ob : Heap} {μ : Nat → Value}
theorem valD_rep {v : Value} {d : D} (h : valD v = some d) : RepD w I v d ∧ v.oneCell' = true := by
  unfold valD at h
  split at h <;> cases h
  · exact ⟨.bool _, rfl⟩
  · exact ⟨.int _ _, rfl⟩
  · exact ⟨.flt _ _, rfl⟩
  · exact ⟨.cpx _ _ _, rfl⟩
  · exact ⟨.str _, rfl⟩
  · exact ⟨.nilp, rfl⟩
  · exact ⟨.slE _ _, rfl⟩
  · exact ⟨.nilf, rfl⟩
  · exact ⟨.nilif, rfl⟩
theorem valV1_rep {v : Value} {x : V} (h : valV1 v = some x) : RepV w I ob μ v x ∧ v.oneCell' = true ∧ refsV x = [] := by
  unfold valV1 at h
  split at h
  · cases h; simp [RepV, refsV, Value.oneCell']
  · cases hd : valD v with
    | none => simp [hd] at h
    | some d =>
      simp [hd] at h
      subst h
      have := valD_rep (w := w) (I := I) hd
      simp [RepV, refsV, this]
theorem valL_rep {vs : List Value} {xs : List V} (h : mapO valV1 vs = some xs) : RepL w I ob μ vs xs ∧ refsL xs = [] := by
  constructor
  · refine RepL.mk (mapO_length h).symm fun i v x h1 h2 => ?_
    obtain ⟨x', h3, h4⟩ := mapO_at h h1
    rw [h2] at h3
    cases h3
    have := valV1_rep (w := w) (I := I) (ob := ob) (μ := μ) h4
    exact ⟨this.1, this.2.1⟩
  · rw [List.eq_nil_iff_forall_not_mem]
    intro o ho
    obtain ⟨x, hx, hr⟩ := refsL_of ho
    obtain ⟨i, hi⟩ := List.getElem?_of_mem hx
    obtain ⟨v, _, hv⟩ := mapO_at' h hi
    have := (valV1_rep (w := w) (I := I) (ob := ob) (μ := μ) hv).2.2
    rw [this] at hr
    cases hr
theorem valV_rep {v : Value} {x : V} (h : valV v = some x) : RepV w I ob μ v x ∧ refsV x = [] := by
  unfold valV at h
  split at h
  · rename_i cs
    cases hm : mapO valV1 cs.toList with
    | none => simp [hm] at h
    | some xs =>
      simp [hm] at h
      subst h
      have := valL_rep (w := w) (I := I) (ob := ob) (μ := μ) hm
      simp only [RepV, refsV]
      exact ⟨⟨cs, rfl, this.1⟩, this.2⟩
  · have := valV1_rep (w := w) (I := I) (ob := ob) (μ := μ) h
    exact ⟨this.1, this.2.2⟩
end

/-- slots -/
def Slots (B U : Nat → Prop) (w : World) (μ : Nat → Value) (ob : Heap) (tmps : Array Value) (sl : Nat → V) : Prop := ∀ t, Val B U w μ ob (tmps.getD t undef) (sl t)

theorem compX_val {B U : Nat → Prop} {w : World} {μ : Nat → Value} {ob : Heap} {a : Act} {s : St} (h : Slots B U w μ ob a.tmps s.sl) {o : Operand} {x : X} (hx : compX o = some x) : Val B U w μ ob (a.eval o) (s.val x) := by
  cases o with
  | tmp t => simp [compX] at hx; subst hx; exact h t
  | const v =>
    cases hv : valV v with
    | none => simp [compX, hv] at hx
    | some y =>
      simp [compX, hv] at hx
      subst hx
      have := valV_rep (w := w) (I := Imm B w ob μ) (ob := ob) (μ := μ) hv
      exact ⟨this.1, by simp [St.val, this.2]⟩
  | global g => simp [compX] at hx
  | func f =>
    simp [compX] at hx
    subst hx
    refine ⟨?_, by simp [St.val, refsV, refsL]⟩
    simp only [St.val, RepV, Act.eval]
    exact ⟨#[], rfl, by simp [RepL]⟩

end Go.Proofs.Am
set_option linter.unusedVariables false
namespace Go.Proofs.Am
open Go

theorem updAll_append (a b : List (Nat × Obj)) : ∀ ob : Heap, updAll ob (a ++ b) = updAll (updAll ob a) b := by
  induction a with
  | nil => intro ob; rfl
  | cons p r ih => intro ob; obtain ⟨o, x⟩ := p; simp only [List.cons_append, updAll, ih]

section
variable {w0 : World} {B M U : Nat → Prop} {w : World} {μ : Nat → Value} {ob : Heap}

theorem OwnRow.block {s n : Nat} {v : Value} {xs : List Value} (h : OwnRow w s v n xs) : (v = .slice none 0 0 ∧ n = 0) ∨ ∃ b c, v = .slice (some ⟨b, 0, none⟩) n c ∧ n ≤ c := by
  obtain ⟨_, h | ⟨g, cap, cur, e, h1, hh⟩⟩ := h
  · exact .inl h
  · exact .inr ⟨g, cap, h1, hh.2.1⟩

/-- a piece of a row of the call's own, as data -/
theorem Rel.rowD (R : Rel B w0 M U w μ ob) {I' : Nat → Prop} (hI : ∀ b, Imm B w ob μ b → I' b) {o v s : Nat} {f : Bool} {elems : List (List D)} (hx : ob o = some (.row v f s elems))
    (hb : ∀ b, blockOf (μ o) = some b → I' b) {b n c : Nat} (hm : μ o = .slice (some ⟨b, 0, none⟩) n c) (off len c' : Nat) (hl : off + len ≤ elems.length) (hc' : len ≤ c') :
    RepD w I' (.slice (some ⟨b, off * s, none⟩) len c') (.sl (rowPart elems off len)) := by
  obtain ⟨hs, hlen, xs, hown, hrep⟩ := R.row hx
  have hpart : ∀ i e, (rowPart elems off len)[i]? = some e → elems[off + i]? = some e := fun i e h => by
    simp only [rowPart, List.getElem?_take] at h
    split at h
    · rwa [List.getElem?_drop] at h
    · cases h
  refine .sl b (off * s) len c' s (rowPart elems off len) (fun k => xs.getD (off * s + k) undef) (by simp [rowPart]; omega) hc' (hb b (by rw [hm]; rfl)) (fun e he => ?_) (fun i j e d h1 h2 => ?_) (fun i j e d h1 h2 => ?_)
  · exact hlen e (List.mem_of_mem_drop (List.mem_of_mem_take he))
  · have hf := flat_at hlen (hpart i e h1) h2
    obtain ⟨u, hu, hr, h1⟩ := hrep.at _ _ hf
    have e1 : (off + i) * s + j = off * s + (i * s + j) := by rw [Nat.add_mul]; omega
    rw [e1] at hu
    have hg : xs.getD (off * s + (i * s + j)) undef = u := by simp [List.getD, hu]
    rw [hg]
    exact ⟨(hown.cell hm).2 _ _ hu, h1⟩
  · have hf := flat_at hlen (hpart i e h1) h2
    obtain ⟨u, hu, hr, h1⟩ := hrep.at _ _ hf
    have e1 : (off + i) * s + j = off * s + (i * s + j) := by rw [Nat.add_mul]; omega
    rw [e1] at hu
    have hg : xs.getD (off * s + (i * s + j)) undef = u := by simp [List.getD, hu]
    rw [hg]
    exact hr.mono hI fun _ _ => rfl

theorem rowPart_all (elems : List (List D)) : rowPart elems 0 elems.length = elems := by simp [rowPart]

theorem Rel.rowAll (R : Rel B w0 M U w μ ob) {I' : Nat → Prop} (hI : ∀ b, Imm B w ob μ b → I' b) {o v s : Nat} {f : Bool} {elems : List (List D)} (hx : ob o = some (.row v f s elems))
    (hb : ∀ b, blockOf (μ o) = some b → I' b) : RepD w I' (μ o) (.sl elems) := by
  obtain ⟨hs, hlen, xs, hown, hrep⟩ := R.row hx
  rcases hown.block with ⟨h1, h2⟩ | ⟨b, c, h1, hcap⟩
  · obtain rfl : elems = [] := List.eq_nil_of_length_eq_zero h2
    rw [h1]
    exact .slE _ _
  · have := R.rowD hI hx hb h1 0 elems.length c (by omega) hcap
    rw [rowPart_all, Nat.zero_mul] at this
    rw [h1]
    exact this

theorem view_rep (R : Rel B w0 M U w μ ob) {I' : Nat → Prop} {Vis : Nat → Prop} (hI : ∀ b, Imm B w ob μ b → I' b)
    (hV : ∀ o x b, Vis o → ob o = some x → blockOf (μ o) = some b → I' b) (hC : ∀ o cells, Vis o → ob o = some (.box cells) → ∀ o' ∈ refsL cells, Vis o') :
    ∀ (n : Nat) (x : V) (v : Value) (d : D), view ob n x = some d → RepV w (Imm B w ob μ) ob μ v x → (∀ o ∈ refsV x, Vis o) → RepD w I' v d := by
  intro n
  induction n with
  | zero => intro x v d h; simp [view] at h
  | succ n ih =>
    intro x v d h hr hvis
    cases x with
    | d y =>
      simp only [view, Option.some.injEq] at h
      subst h
      simp only [RepV] at hr
      exact hr.1.mono hI fun _ _ => rfl
    | nsl =>
      simp only [view, Option.some.injEq] at h
      subst h
      simp only [RepV] at hr
      subst hr
      exact .slE _ _
    | agg cells =>
      simp only [view, Option.map_eq_some_iff] at h
      obtain ⟨l, hl, rfl⟩ := h
      simp only [RepV] at hr
      obtain ⟨cs, rfl, hrl⟩ := hr
      refine .agg cs l ?_ (fun i u hu => ?_) (fun i u d hu hd => ?_)
      · rw [mapO_length hl, ← hrl.length]; simp
      · exact hrl.one u (by rw [← Array.getElem?_toList] at hu; exact List.mem_of_getElem? hu)
      · obtain ⟨c, hc, hv⟩ := mapO_at' hl hd
        refine ih c u d hv (hrl.at i u c (by rw [Array.getElem?_toList]; exact hu) hc).1 fun o ho => hvis o ?_
        simp only [refsV]
        exact refsL_mem (List.mem_of_getElem? hc) o ho
    | ref o ver i j =>
      simp only [view] at h
      simp only [RepV] at hr
      split at h
      · rename_i cells hx
        rw [hx] at hr
        simp only at hr
        obtain ⟨_, b, hi, hm, rfl⟩ := hr
        rw [if_pos hi] at h
        obtain ⟨l, hl, rfl⟩ := Option.map_eq_some_iff.1 h
        obtain ⟨b', c, e, h1, h2, h3⟩ := R.ok o _ hx
        rw [hm] at h1
        cases h1
        have hvo := hvis o (by simp [refsV])
        have hget : ∀ k d, l[k]? = some d → ∃ u x, c[k]? = some u ∧ cells[k]? = some x ∧ view ob n x = some d := fun k d hd => by
          obtain ⟨x, hx', hv⟩ := mapO_at' hl hd
          have hlt : k < c.toList.length := by rw [h3.length]; exact (List.getElem?_eq_some_iff.1 hx').1
          refine ⟨c.toList[k], x, ?_, hx', hv⟩
          rw [← Array.getElem?_toList]
          exact List.getElem?_eq_getElem hlt
        have h0 := RepD.ptr (w := w) (I := I') b 0 j l (fun k => c.getD k undef) (hV o _ b hvo hx (by rw [hm]; rfl)) (fun k d hd => ?_) (fun k d hd => ?_)
        · simpa using h0
        · obtain ⟨u, x, hu, hx', hv⟩ := hget k d hd
          have hg : c.getD k undef = u := by rw [Array.getD_eq_getD_getElem?, hu]; rfl
          rw [hg]
          refine ⟨by simp [World.cell?, h2, hu], (h3.at k u x (by rw [Array.getElem?_toList]; exact hu) hx').2⟩
        · obtain ⟨u, x, hu, hx', hv⟩ := hget k d hd
          have hg : c.getD k undef = u := by rw [Array.getD_eq_getD_getElem?, hu]; rfl
          rw [hg]
          refine ih x u d hv (h3.at k u x (by rw [Array.getElem?_toList]; exact hu) hx').1 fun o' ho' => hC o cells hvo hx o' (refsL_mem (List.mem_of_getElem? hx') o' ho')
      · cases h
    | own o ver =>
      simp only [view] at h
      simp only [RepV] at hr
      split at h
      · rename_i v' f s elems hx
        rw [hx] at hr
        simp only at hr
        split at h
        · rename_i hver
          cases h
          rw [hr.2.2 hver]
          exact R.rowAll hI hx fun b hb => hV o _ b (hvis o (by simp [refsV])) hx hb
        · cases h
      · cases h
    | osl o ver off len =>
      simp only [view] at h
      simp only [RepV] at hr
      split at h
      · rename_i v' f s elems hx
        rw [hx] at hr
        simp only at hr
        split at h
        · rename_i hver
          cases h
          obtain ⟨A, c, rfl, hcap, hA⟩ := hr.2.2 hver.1
          rcases Nat.eq_zero_or_pos len with h0 | h0
          · subst h0
            simp only [rowPart, List.take_zero]
            exact .slE _ _
          · obtain ⟨b, n', c', h1, h2⟩ := hA.resolve_left (by omega)
            subst h2
            exact R.rowD hI hx (fun b hb => hV o _ b (hvis o (by simp [refsV])) hx hb) h1 off len c hver.2 hcap
        · cases h
      · cases h
    | fn f caps =>
      simp only [view, Option.map_eq_some_iff] at h
      obtain ⟨l, hl, rfl⟩ := h
      simp only [RepV] at hr
      obtain ⟨cs, rfl, hrl⟩ := hr
      refine .fn f cs l ?_ (fun i u hu => ?_) (fun i u d hu hd => ?_)
      · rw [mapO_length hl, ← hrl.length]; simp
      · exact hrl.one u (by rw [← Array.getElem?_toList] at hu; exact List.mem_of_getElem? hu)
      · obtain ⟨c, hc, hv⟩ := mapO_at' hl hd
        refine ih c u d hv (hrl.at i u c (by rw [Array.getElem?_toList]; exact hu) hc).1 fun o ho => hvis o ?_
        simp only [refsV]
        exact refsL_mem (List.mem_of_getElem? hc) o ho
    | tup vs => simp [view] at h
    | undef => simp [view] at h
    | dead => simp [view] at h

/-- rows frozen, each as it is -/
theorem Rel.freezesAt (ids : List Nat) : ∀ (ob1 : Heap) (fs : List (Nat × Obj)), freezes ob ids = some fs → Rel B w0 M U w μ ob1 →
    (∀ o, ob1 o = ob o ∨ ∃ v f s e, ob o = some (.row v f s e) ∧ ob1 o = some (.row v true s e)) →
    Step B w0 M U U w w μ μ ob1 (updAll ob1 fs) ∧ (∀ o, (updAll ob1 fs) o = ob1 o ∨ ∃ v s e, (updAll ob1 fs) o = some (.row v true s e)) ∧
    (∀ o ∈ ids, ∃ v s e, (updAll ob1 fs) o = some (.row v true s e)) := by
  induction ids with
  | nil =>
    intro ob1 fs h R hs
    simp only [freezes, Option.some.injEq] at h
    subst h
    exact ⟨Step.refl R, fun o => .inl rfl, fun o ho => by cases ho⟩
  | cons o r ih =>
    intro ob1 fs h R hs
    simp only [freezes] at h
    split at h
    · rename_i v f s e hx
      obtain ⟨l, hl, rfl⟩ := Option.map_eq_some_iff.1 h
      have hx1 : ∃ f', ob1 o = some (.row v f' s e) := by
        rcases hs o with h1 | ⟨v', f', s', e', h1, h2⟩
        · exact ⟨f, h1.trans hx⟩
        · rw [hx] at h1; cases h1; exact ⟨true, h2⟩
      obtain ⟨f', hx1⟩ := hx1
      have S1 := R.freeze o v s f' e hx1
      have hs2' : ∀ o', (upd ob1 o (some (.row v true s e))) o' = ob o' ∨ ∃ v' f' s' e', ob o' = some (.row v' f' s' e') ∧ (upd ob1 o (some (.row v true s e))) o' = some (.row v' true s' e') := fun o' => by
        by_cases e' : o' = o
        · subst e'
          exact .inr ⟨v, f, s, e, hx, upd_eq _ _ _⟩
        · have h0 := upd_ne ob1 (some (.row v true s e)) e'
          rw [h0]
          exact hs o'
      obtain ⟨S2, h3, h4⟩ := ih _ l hl S1.rel hs2'
      simp only [updAll]
      refine ⟨S1.trans S2, fun o' => ?_, fun o' ho' => ?_⟩
      · rcases h3 o' with h5 | h5
        · by_cases e' : o' = o
          · subst e'
            rw [upd_eq] at h5
            exact .inr ⟨v, s, e, h5⟩
          · rw [upd_ne _ _ e'] at h5
            exact .inl h5
        · exact .inr h5
      · rcases List.mem_cons.1 ho' with rfl | h
        · rcases h3 o' with h5 | h5
          · rw [upd_eq] at h5
            exact ⟨v, s, e, h5⟩
          · exact h5
        · exact h4 o' h
    · cases h

theorem Rel.freezes (R : Rel B w0 M U w μ ob) {ids : List Nat} {fs : List (Nat × Obj)} (h : freezes ob ids = some fs) :
    Step B w0 M U U w w μ μ ob (updAll ob fs) ∧ (∀ o, (updAll ob fs) o = ob o ∨ ∃ v s e, (updAll ob fs) o = some (.row v true s e)) ∧ (∀ o ∈ ids, ∃ v s e, (updAll ob fs) o = some (.row v true s e)) :=
  Rel.freezesAt ids ob fs h R fun o => .inl rfl

theorem freezes_mem {ids : List Nat} : ∀ {fs : List (Nat × Obj)}, Am.freezes ob ids = some fs → ∀ o ∈ ids, ∃ v f s e, ob o = some (.row v f s e) := by
  induction ids with
  | nil => intro fs h o ho; cases ho
  | cons a r ih =>
    intro fs h o ho
    simp only [Am.freezes] at h
    split at h
    · rename_i v f s e ha
      obtain ⟨l', hl', _⟩ := Option.map_eq_some_iff.1 h
      rcases List.mem_cons.1 ho with rfl | h
      · exact ⟨v, f, s, e, ha⟩
      · exact ih hl' o h
    · cases h

/-- Cells for a row: data behind the freezing. -/
theorem Rel.rowCells (R : Rel B w0 M U w μ ob) {vs : List V} {r : List D × List (Nat × Obj)} (h : rowCells ob vs = some r) {us : List Value} (hr : RepL w (Imm B w ob μ) ob μ us vs) (hu : ∀ o ∈ refsL vs, U o) :
    Step B w0 M U U w w μ μ ob (updAll ob r.2) ∧ RepDs w (Imm B w (updAll ob r.2) μ) us r.1 ∧ r.1.length = vs.length ∧ (∀ o, (updAll ob r.2) o = ob o ∨ ∃ v s e, (updAll ob r.2) o = some (.row v true s e)) := by
  simp only [Am.rowCells, Option.bind_eq_some_iff, Option.map_eq_some_iff] at h
  obtain ⟨ds, hds, fs, hfs, rfl⟩ := h
  obtain ⟨S, h3, h4⟩ := R.freezes hfs
  refine ⟨S, ?_, mapO_length hds, h3⟩
  refine RepDs.mk (by rw [hr.length, mapO_length hds]) fun i u d h1 h2 => ?_
  obtain ⟨x, hx, hv⟩ := mapO_at' hds h2
  have hux := hr.at i u x h1 hx
  refine ⟨?_, hux.2⟩
  refine view_rep (Vis := fun o => o ∈ refsL vs) R (fun b hb => S.hI b hb) (fun o y b ho hy hb => ?_) (fun o cells ho hy => ?_) _ x u d hv hux.1 fun o ho => refsL_mem (List.mem_of_getElem? hx) o ho
  · obtain ⟨v, s, e, h5⟩ := h4 o ho
    refine ⟨R.lt hy hb, fun o' y' hy' hm' hb' => ?_, R.inB _ _ _ hy hb⟩
    have := S.rel.inj o o' _ y' b h5 hy' hb hb'
    subst this
    rw [h5] at hy'
    cases hy'
    simp [muta] at hm'
  · obtain ⟨v, f, s, e, h5⟩ := freezes_mem hfs o ho
    rw [h5] at hy
    cases hy
end
end Go.Proofs.Am
set_option linter.unusedVariables false
namespace Go.Proofs.Am
open Go

def NewU (U : Nat → Prop) (id : Nat) : Nat → Prop := fun o => U o ∨ (id ≤ o ∧ o < id + bound)

/-- What an operation (no call) must do. -/
def Good (P : Program) (o : Oper) (a : Act) (B : Nat → Prop) (w0 : World) (M U : Nat → Prop) (w : World) (μ : Nat → Value) (ob : Heap) (id : Nat) (v : V) (ups : List (Nat × Obj)) : Prop :=
  ∃ n val w' μ', (execOp a.eval o).run P w = .ok n w' ∧ (n = .value val ∨ (n = .skip ∧ val = undef)) ∧
    Step B w0 M U (NewU U id) w w' μ μ' ob (updAll ob ups) ∧ Val B (NewU U id) w' μ' (updAll ob ups) val v

section
variable {P : Program} {o : Oper} {a : Act} {w0 : World} {B M U : Nat → Prop} {w : World} {μ : Nat → Value} {ob : Heap} {id : Nat}

theorem NewU.of {o : Nat} (h : U o) : NewU U id o := .inl h

theorem Step.newU {w' : World} {μ' : Nat → Value} {ob' : Heap} {U' : Nat → Prop} (S : Step B w0 M U U' w w' μ μ' ob ob') (h : ∀ o, U' o → NewU U id o) : Step B w0 M U (NewU U id) w w' μ μ' ob ob' :=
  ⟨S.rel.weaken h, fun o ho => .inl ho, S.hI, S.hw, S.hkeep, S.hnone⟩

theorem Val.weaken {U' : Nat → Prop} {v : Value} {x : V} (h : Val B U w μ ob v x) (hU : ∀ o, U o → U' o) : Val B U' w μ ob v x := ⟨h.1, fun o ho => hU o (h.2 o ho)⟩

theorem Good.quiet (R : Rel B w0 M U w μ ob) {val : Value} {v : V} (hrun : (execOp a.eval o).run P w = .ok (.value val) w) (hv : Val B U w μ ob val v) : Good P o a B w0 M U w μ ob id v [] :=
  ⟨_, val, w, μ, hrun, .inl rfl, (Step.refl R).newU fun o ho => .inl ho, hv.weaken fun o ho => .inl ho⟩

theorem Val.d {v : Value} {x : D} (h : RepD w (Imm B w ob μ) v x) (h1 : v.oneCell' = true) : Val B U w μ ob v (.d x) := ⟨by simp only [RepV]; exact ⟨h, h1⟩, by simp [refsV]⟩
theorem Val.mkBool (b : Bool) : Val B U w μ ob (.bool b) (.d (.bool b)) := Val.d (.bool b) rfl
theorem Val.mkInt (k : IntKind) (n : Int) : Val B U w μ ob (.int k n) (.d (.int k n)) := Val.d (.int k n) rfl
theorem Val.mkStr (s : ByteArray) : Val B U w μ ob (.string s) (.d (.str s)) := Val.d (.str s) rfl

/-! ### moves -/
theorem good_mov (R : Rel B w0 M U w μ ob) {x : Operand} {v : V} (ho : o.op = .move x ∨ o.op = .assign x) (hx : Val B U w μ ob (a.eval x) v) : Good P o a B w0 M U w μ ob id v [] := by
  refine Good.quiet R ?_ hx
  rcases ho with ho | ho <;> simp [execOp, ho]

theorem pickV_eq (t : Bool) (a b : V) : pickV t a b = if t then a else b := by
  unfold pickV
  split <;> cases t <;> rfl

theorem good_pick (R : Rel B w0 M U w μ ob) {c x y : Operand} {t : Bool} {vx vy : V} (ho : o.op = .pick c x y) (hc : Val B U w μ ob (a.eval c) (.d (.bool t)))
    (hx : Val B U w μ ob (a.eval x) vx) (hy : Val B U w μ ob (a.eval y) vy) : Good P o a B w0 M U w μ ob id (pickV t vx vy) [] := by
  have hcv : a.eval c = .bool t := RepV.bool hc.1
  have hv : Val B U w μ ob (if t then a.eval x else a.eval y) (if t then vx else vy) := by cases t <;> simpa
  have hp : Val B U w μ ob (if t then a.eval x else a.eval y) (pickV t vx vy) := by rw [pickV_eq]; exact hv
  refine Good.quiet R ?_ hp
  simp [execOp, ho, hcv, asBool]

/-! ### memory -/
theorem alloc_run (w : World) (t : TypeId) (v : Value) : (newVar t v).run P w = .ok ⟨w.heap.size, 0, none⟩ (w.alloc (.cells v.cells t)) := by
  simp [newVar, newRow]

theorem good_newbox (R : Rel B w0 M U w μ ob) (hid : ∀ j, j < bound → ¬ U (id + j)) (t : TypeId) (v : Value) (cs : List V) (hl : RepL w (Imm B w ob μ) ob μ v.cells.toList cs) (hr : ∀ o ∈ refsL cs, U o)
    (hrun : (execOp a.eval o).run P w = .ok (.value (.pointer (some ⟨w.heap.size, 0, none⟩))) (w.alloc (.cells v.cells t))) :
    Good P o a B w0 M U w μ ob id (.ref id 0 0 0) [(id, .box cs)] := by
  have h0 : ¬ U id := by simpa using hid 0 (by simp [bound])
  have S := R.alloc id h0 (.cells v.cells t) (.pointer (some ⟨w.heap.size, 0, none⟩)) (.box cs) rfl (by simpa [refsO] using hr)
    (fun w' ob' μ' hw' hm' hI hw hk => ⟨w.heap.size, v.cells, t, hm', by rw [hw']; exact (by show (w.heap.push _)[w.heap.size]? = _; simp), RepL.mono hI hw cs _ (fun o ho => hk o (hr o ho)) hl⟩)
  refine ⟨_, _, _, _, hrun, .inl rfl, S.newU (fun o ho => ho.imp _root_.id fun e => by subst e; exact ⟨Nat.le_refl _, by simp [bound]⟩), ?_, ?_⟩
  · simp only [RepV, updAll, upd_eq]
    exact ⟨rfl, w.heap.size, by simp⟩
  · intro o ho
    simp [refsV] at ho
    subst ho
    exact .inr ⟨Nat.le_refl _, by simp [bound]⟩

theorem good_box (R : Rel B w0 M U w μ ob) (hid : ∀ j, j < bound → ¬ U (id + j)) {t : TypeId} {x : Operand} {vx : V} {cs : List V} (ho : o.op = .box t x)
    (hx : Val B U w μ ob (a.eval x) vx) (hc : cellsOf vx = some cs) : Good P o a B w0 M U w μ ob id (.ref id 0 0 0) [(id, .box cs)] := by
  refine good_newbox R hid t (a.eval x) cs (hx.1.cells hc) (fun o ho => hx.2 o (by rw [← refs_cells hc]; exact ho)) ?_
  simp [execOp, ho, Instr.box, alloc_run]

theorem good_alloc (R : Rel B w0 M U w μ ob) (hid : ∀ j, j < bound → ¬ U (id + j)) {t : TypeId} {cs : List V} (ho : o.op = .alloc t) (hz : zeroV P t = some cs) :
    Good P o a B w0 M U w μ ob id (.ref id 0 0 0) [(id, .box cs)] := by
  simp only [zeroV, Option.bind_eq_some_iff] at hz
  obtain ⟨z, hz, hm⟩ := hz
  have hl := valL_rep (w := w) (I := Imm B w ob μ) (ob := ob) (μ := μ) hm
  refine good_newbox R hid t z cs hl.1 (by simp [hl.2]) ?_
  simp [execOp, ho, Instr.alloc, run_zeroT hz, alloc_run]

/-- an address of cells: what they hold -/
theorem load_ptr (R : Rel B w0 M U w μ ob) {v : Value} {cells : List D} {j : Nat} (hv : RepD w (Imm B w ob μ) v (.ptr cells j)) {n : Nat} (hn : (part cells j n).length = n) :
    ∃ ad cs, v = .pointer (some ad) ∧ cs.length = n ∧ (∀ (k : Nat) u, cs[k]? = some u → w.cell? (ad.add k) = some u) ∧ RepL w (Imm B w ob μ) ob μ cs ((part cells j n).map .d) := by
  cases hv with
  | ptr b base off cells vs hI hc hr =>
    have hget : ∀ k d, (part cells j n)[k]? = some d → cells[j + k]? = some d := fun k d h => by
      simp only [part, List.getElem?_take] at h
      split at h
      · rwa [List.getElem?_drop] at h
      · cases h
    refine ⟨⟨b, base + j, none⟩, (List.range n).map fun k => vs (j + k), rfl, by simp, fun k u hu => ?_, ?_⟩
    · simp only [List.getElem?_map, Option.map_eq_some_iff] at hu
      obtain ⟨k', hk, rfl⟩ := hu
      have hkn : k < n := by
        have := (List.getElem?_eq_some_iff.1 hk).1
        simpa using this
      have : k' = k := by simpa [List.getElem?_range, hkn] using hk.symm
      subst this
      have hd : (part cells j n)[k']? = some ((part cells j n)[k']'(by omega)) := List.getElem?_eq_getElem _
      rw [add_none, Nat.add_assoc]
      exact (hc _ _ (hget _ _ hd)).1
    · refine RepL.mk (by simp [hn]) fun k u x h1 h2 => ?_
      simp only [List.getElem?_map, Option.map_eq_some_iff] at h1 h2
      obtain ⟨k', hk, rfl⟩ := h1
      obtain ⟨d, hd, rfl⟩ := h2
      have hkn : k < n := by
        have := (List.getElem?_eq_some_iff.1 hk).1
        simpa using this
      have : k' = k := by simpa [List.getElem?_range, hkn] using hk.symm
      subst this
      have hd' := hget _ _ hd
      simp only [RepV]
      exact ⟨⟨hr _ _ hd', (hc _ _ hd').2⟩, (hc _ _ hd').2⟩

theorem loadFrom_len {g : Bool} {n : Nat} {cells : List V} {v : V} (h : loadFrom g n cells = some v) : cells.length = n ∧ (g = false → n = 1) := by
  unfold loadFrom at h
  split at h
  · rename_i hl
    refine ⟨hl, fun e => ?_⟩
    subst e
    simp only [Bool.false_eq_true, if_false] at h
    split at h
    · simpa using hl.symm
    · cases h
  · cases h
theorem loadFrom_val {g : Bool} {n : Nat} {cells : List V} {v : V} (h : loadFrom g n cells = some v) {cs : List Value} (hl : RepL w (Imm B w ob μ) ob μ cs cells) (hr : ∀ o ∈ refsL cells, U o) :
    Val B U w μ ob (if g then .agg cs.toArray else cs.headD undef) v := by
  have hlen := loadFrom_len h
  unfold loadFrom at h
  rw [if_pos hlen.1] at h
  cases g with
  | true =>
    simp only [if_true, Option.some.injEq] at h
    subst h
    refine ⟨?_, by simpa [refsV] using hr⟩
    simp only [RepV, if_true]
    exact ⟨cs.toArray, rfl, by simpa using hl⟩
  | false =>
    simp only [Bool.false_eq_true, if_false] at h
    split at h
    · rename_i x
      cases h
      cases cs with
      | nil => simp [RepL] at hl
      | cons u r =>
        simp only [RepL] at hl
        exact ⟨by simpa using hl.1.1, fun o ho => hr o (by simp [refsL, ho])⟩
    · cases h

theorem good_loadAt (R : Rel B w0 M U w μ ob) {t : TypeId} {x : Operand} {g : Bool} {n : Nat} {v : V} {cells : List V} (ho : o.op = .load t x) (hg : isAggT P t = some g) (hn : sizeT P t = some n)
    {ad : Addr} {cs : List Value} (hx : a.eval x = .pointer (some ad)) (hc : ∀ (k : Nat) u, cs[k]? = some u → w.cell? (ad.add k) = some u)
    (hl : RepL w (Imm B w ob μ) ob μ cs cells) (hr : ∀ o ∈ refsL cells, U o) (h : loadFrom g n cells = some v) : Good P o a B w0 M U w μ ob id v [] := by
  have hlen := loadFrom_len h
  refine Good.quiet R ?_ (loadFrom_val h hl hr)
  simp [execOp, ho, Instr.loadAt, hx, Instr.sureAddr, run_loadVar' hg hn ad cs (by rw [hl.length]; exact hlen.1) hc hlen.2]

theorem good_load (R : Rel B w0 M U w μ ob) {t : TypeId} {x : Operand} {g : Bool} {n : Nat} {vx v : V} {ups : List (Nat × Obj)} (ho : o.op = .load t x) (hg : isAggT P t = some g) (hn : sizeT P t = some n)
    (hx : Val B U w μ ob (a.eval x) vx) {call : CallT} {ρ : X → V} {X1 : X} (hX : ρ X1 = vx) (h : opEval call ρ ob id (.load g n X1) = some (v, ups)) : Good P o a B w0 M U w μ ob id v ups := by
  simp only [opEval, hX] at h
  split at h
  · rename_i cells j
    obtain ⟨v', hv', he⟩ := Option.map_eq_some_iff.1 h
    cases he
    have hlen := loadFrom_len hv'
    have hx1 := hx.1
    simp only [RepV] at hx1
    have hpm : part (cells.map V.d) j n = (part cells j n).map V.d := by simp [part, List.map_drop, List.map_take]
    rw [hpm] at hv' hlen
    obtain ⟨ad, cs, he, hcl, hcell, hrep⟩ := load_ptr R hx1.1 (n := n) (by simpa using hlen.1)
    exact good_loadAt R ho hg hn he hcell hrep (by simp [refsL_d]) hv'
  · rename_i o' ver i j
    split at h
    · rename_i cells hob
      split at h
      · rename_i hi
        obtain ⟨v', hv', he⟩ := Option.map_eq_some_iff.1 h
        cases he
        have hlen := loadFrom_len hv'
        have hx1 := hx.1
        simp only [RepV, hob] at hx1
        obtain ⟨_, b, _, hm, hval⟩ := hx1
        obtain ⟨b', c, e, h1, h2, h3⟩ := R.ok o' _ hob
        rw [hm] at h1
        cases h1
        refine good_loadAt (cs := part c.toList j n) R ho hg hn hval (fun k u hu => ?_) (h3.part j n) (fun o'' ho'' => (R.used o' _ hob).2 o'' (refsL_part cells j n o'' ho'')) hv'
        rw [add_none]
        simp only [part, List.getElem?_take] at hu
        split at hu
        · rw [List.getElem?_drop] at hu
          simp only [World.cell?, h2]
          simpa using hu
        · cases hu
      · cases h
    · rename_i v' f s elems hob
      split at h
      · rename_i hver
        obtain ⟨e, he, h⟩ := Option.bind_eq_some_iff.1 h
        obtain ⟨v'', hv', he'⟩ := Option.map_eq_some_iff.1 h
        cases he'
        have hlen := loadFrom_len hv'
        have hx1 := hx.1
        simp only [RepV, hob] at hx1
        obtain ⟨b, n', c, hm, hval⟩ := hx1.2.2 hver
        have hpl : (part e j n).length = n := by simpa using hlen.1
        have hget : ∀ k d, (part e j n)[k]? = some d → e[j + k]? = some d := fun k d h => by
          simp only [part, List.getElem?_take] at h
          split at h
          · rwa [List.getElem?_drop] at h
          · cases h
        have hcell : ∀ k, k < n → ∃ u d, (part e j n)[k]? = some d ∧ w.cell? ⟨b, i * s + (j + k), none⟩ = some u ∧ RepD w (Imm B w ob μ) u d ∧ u.oneCell' = true := fun k hk => by
          have hd : (part e j n)[k]? = some ((part e j n)[k]'(by omega)) := List.getElem?_eq_getElem _
          obtain ⟨u, h1, h2, h3⟩ := R.rowCell hob hm he (hget _ _ hd)
          exact ⟨u, _, hd, h1, h2, h3⟩
        refine good_loadAt (cs := (List.range n).map fun k => ((w.cell? ⟨b, i * s + (j + k), none⟩).getD undef)) R ho hg hn hval (fun k u hu => ?_) ?_ (by simp [refsL_d]) hv'
        · simp only [List.getElem?_map, Option.map_eq_some_iff] at hu
          obtain ⟨k', hk, rfl⟩ := hu
          have hkn : k < n := by
            have := (List.getElem?_eq_some_iff.1 hk).1
            simpa using this
          have : k' = k := by simpa [List.getElem?_range, hkn] using hk.symm
          subst this
          obtain ⟨u, d, _, h1, _, _⟩ := hcell k' hkn
          rw [add_none, Nat.add_assoc, h1]
          rfl
        · refine RepL.mk (by simp [hpl]) fun k u x h1 h2 => ?_
          simp only [List.getElem?_map, Option.map_eq_some_iff] at h1 h2
          obtain ⟨k', hk, rfl⟩ := h1
          obtain ⟨d, hd, rfl⟩ := h2
          have hkn : k < n := by
            have := (List.getElem?_eq_some_iff.1 hk).1
            simpa using this
          have : k' = k := by simpa [List.getElem?_range, hkn] using hk.symm
          subst this
          obtain ⟨u, d', hd', h1, h3, h4⟩ := hcell k' hkn
          rw [hd] at hd'
          cases hd'
          rw [h1]
          simp only [RepV, Option.getD_some]
          exact ⟨⟨h3, h4⟩, h4⟩
      · cases h
    · cases h
  · cases h
end
end Go.Proofs.Am
set_option linter.unusedVariables false
set_option linter.unusedSimpArgs false
namespace Go.Proofs.Am
open Go

section
variable {P : Program} {o : Oper} {a : Act} {w0 : World} {B M U : Nat → Prop} {w : World} {μ : Nat → Value} {ob : Heap} {id : Nat}

theorem Val.repD {v : Value} {x : D} (h : Val B U w μ ob v (.d x)) : RepD w (Imm B w ob μ) v x ∧ v.oneCell' = true := by
  have := h.1
  simpa only [RepV] using this

theorem eqGuard_none (op : BinOp) (t : TypeId) (x y : Operand) (u v : Value) (hu : (∀ cs, u ≠ .agg cs) ∧ u ≠ .nilIface) : (eqGuard op t x y u v).run P w = .ok () w := by
  unfold eqGuard
  cases op <;> (try simp) <;> (cases u <;> (try simp) <;> simp_all)

theorem bin_run {op : BinOp} {t : TypeId} {u v : Value} {x y z : D} (hx : RepD w (Imm B w ob μ) u x) (hy : RepD w (Imm B w ob μ) v y) (h : binD op x y = some z) :
    ∃ r, (binOp op t u v).run P w = .ok r w ∧ RepD w (Imm B w ob μ) r z ∧ r.oneCell' = true ∧ (∀ cs, u ≠ .agg cs) ∧ u ≠ .nilIface := by
  unfold binD at h
  split at h
  · -- whole numbers
    rename_i k n k' m
    cases hx
    cases hy
    refine (fun (hh : ∃ r, (binOp op t (.int k n) (.int k' m)).run P w = .ok r w ∧ RepD w (Imm B w ob μ) r z ∧ r.oneCell' = true) => ?_) ?_
    · obtain ⟨r, h1, h2, h3⟩ := hh
      exact ⟨r, h1, h2, h3, by simp, by simp⟩
    · cases op <;> simp only at h
      case shl =>
        unfold shiftInt at h
        split at h
        · cases h
        · rename_i hm
          simp only [Option.some.injEq] at h
          subst h
          exact ⟨_, by simp [binOp, Op.shift, hm], .int _ _, rfl⟩
      case shr =>
        unfold shiftInt at h
        split at h
        · cases h
        · rename_i hm
          simp only [Option.some.injEq] at h
          subst h
          exact ⟨_, by simp [binOp, Op.shift, hm], .int _ _, rfl⟩
      all_goals
        split at h
        · rename_i hk
          subst hk
          simp only [binInt] at h
          first
            | (cases h; exact ⟨_, by simp [binOp, Op.intArith, Op.intBits, Op.intCmp] <;> rfl, .int _ _, rfl⟩)
            | (cases h; exact ⟨_, by simp [binOp, Op.intArith, Op.intBits, Op.intCmp] <;> rfl, .bool _, rfl⟩)
            | (split at h
               · cases h
               · rename_i h0
                 cases h
                 exact ⟨_, by simp [binOp, Op.intDiv, h0] <;> rfl, .int _ _, rfl⟩)
        · cases h
  · -- strings
    rename_i s1 s2
    cases hx
    cases hy
    refine (fun (hh : ∃ r, (binOp op t (.string s1) (.string s2)).run P w = .ok r w ∧ RepD w (Imm B w ob μ) r z ∧ r.oneCell' = true) => ?_) ?_
    · obtain ⟨r, h1, h2, h3⟩ := hh
      exact ⟨r, h1, h2, h3, by simp, by simp⟩
    · unfold binStr at h
      cases op <;> simp only at h <;> try cases h
      case add =>
        split at h
        · rename_i hs
          cases h
          refine ⟨_, ?_, .str _, rfl⟩
          have : ¬ ((s1.size + s2.size : Nat) : Int) > IntKind.i64.max := by
            have : IntKind.i64.max = 9223372036854775807 := by decide
            omega
          simp only [binOp, Op.stringOp]
          rw [if_neg this]
          rfl
        · cases h
      all_goals exact ⟨_, by simp [binOp, Op.stringOp] <;> rfl, .bool _, rfl⟩
  · -- floats
    rename_i k n k' m
    cases hx
    cases hy
    refine (fun (hh : ∃ r, (binOp op t (.float k n) (.float k' m)).run P w = .ok r w ∧ RepD w (Imm B w ob μ) r z ∧ r.oneCell' = true) => ?_) ?_
    · obtain ⟨r, h1, h2, h3⟩ := hh
      exact ⟨r, h1, h2, h3, by simp, by simp⟩
    · split at h
      · rename_i hk
        subst hk
        unfold binFlt at h
        cases op <;> simp only [Option.map_eq_some_iff] at h <;> try cases h
        case add.intro =>
          rename_i r h
          obtain ⟨h, rfl⟩ := h
          exact ⟨_, by simp [binOp, Op.floatArith, h] <;> rfl, .flt _ _, rfl⟩
        case sub.intro =>
          rename_i r h
          obtain ⟨h, rfl⟩ := h
          exact ⟨_, by simp [binOp, Op.floatArith, h] <;> rfl, .flt _ _, rfl⟩
        case mul.intro =>
          rename_i r h
          obtain ⟨h, rfl⟩ := h
          exact ⟨_, by simp [binOp, Op.floatArith, h] <;> rfl, .flt _ _, rfl⟩
        case quo.intro =>
          rename_i r h
          obtain ⟨h, rfl⟩ := h
          exact ⟨_, by simp [binOp, Op.floatArith, h] <;> rfl, .flt _ _, rfl⟩
        all_goals exact ⟨_, by simp [binOp, Op.floatCmp] <;> rfl, .bool _, rfl⟩
      · cases h
  · -- complex numbers
    rename_i k n1 n2 k' m1 m2
    cases hx
    cases hy
    refine (fun (hh : ∃ r, (binOp op t (.complex k n1 n2) (.complex k' m1 m2)).run P w = .ok r w ∧ RepD w (Imm B w ob μ) r z ∧ r.oneCell' = true) => ?_) ?_
    · obtain ⟨r, h1, h2, h3⟩ := hh
      exact ⟨r, h1, h2, h3, by simp, by simp⟩
    · split at h
      · rename_i hk
        subst hk
        cases op <;> simp only at h <;> try cases h
        case add =>
          simp only [Option.bind_eq_some_iff, Option.map_eq_some_iff] at h
          obtain ⟨r, hr, i, hi, rfl⟩ := h
          exact ⟨_, by simp [binOp, Op.complexOp, Op.Complex.arith, Op.floatArith, hr, hi] <;> rfl, .cpx _ _ _, rfl⟩
        case sub =>
          simp only [Option.bind_eq_some_iff, Option.map_eq_some_iff] at h
          obtain ⟨r, hr, i, hi, rfl⟩ := h
          exact ⟨_, by simp [binOp, Op.complexOp, Op.Complex.arith, Op.floatArith, hr, hi] <;> rfl, .cpx _ _ _, rfl⟩
      · cases h
  · cases h

theorem good_bin (R : Rel B w0 M U w μ ob) {op : BinOp} {t t' : TypeId} {x y : Operand} {dx dy z : D} (ho : o.op = .binOp op t x y t') (hx : Val B U w μ ob (a.eval x) (.d dx)) (hy : Val B U w μ ob (a.eval y) (.d dy))
    (h : binD op dx dy = some z) : Good P o a B w0 M U w μ ob id (.d z) [] := by
  obtain ⟨r, h1, h2, h3, h4⟩ := bin_run (P := P) (t := t) hx.repD.1 hy.repD.1 h
  refine Good.quiet R ?_ (Val.d h2 h3)
  simp [execOp, ho, eqGuard_none op t x y _ _ h4, h1]

theorem run_equal_bool {t : TypeId} (ht : P.underlying t = some .bool) (x y : Bool) : (Op.equal t (.bool x) (.bool y)).run P w = .ok (x == y) w := by
  obtain ⟨d, hd⟩ : ∃ d, Op.maxDepth = d + 1 := ⟨9999, rfl⟩
  unfold Op.equal
  rw [hd]
  simp only [Op.equalIn, Sem.run_bind, run_und ht, Result.andThen_ok]
  rfl

theorem good_beq (R : Rel B w0 M U w μ ob) {op : BinOp} {ne : Bool} {t t' : TypeId} {x y : Operand} {bx byy : Bool} (ho : o.op = .binOp op t x y t') (hop : op = if ne then .neq else .eql) (ht : P.underlying t = some .bool)
    (hx : Val B U w μ ob (a.eval x) (.d (.bool bx))) (hy : Val B U w μ ob (a.eval y) (.d (.bool byy))) :
    Good P o a B w0 M U w μ ob id (.d (.bool (if ne then !(bx == byy) else bx == byy))) [] := by
  have e1 := RepV.bool hx.1
  have e2 := RepV.bool hy.1
  refine Good.quiet R (val := .bool (if ne then !(bx == byy) else bx == byy)) ?_ (Val.mkBool _)
  subst hop
  have hg := fun (op : BinOp) => eqGuard_none (P := P) (w := w) op t x y (.bool bx) (.bool byy) ⟨by simp, by simp⟩
  cases ne
  · simp [execOp, ho, e1, e2, hg, binOp, run_equal_bool ht]
  · simp [execOp, ho, e1, e2, hg, binOp, run_equal_bool ht]

theorem good_un (R : Rel B w0 M U w μ ob) {op : UnOp} {t : TypeId} {x : Operand} {dx z : D} (ho : o.op = .unOp op t x) (hx : Val B U w μ ob (a.eval x) (.d dx)) (h : unD op dx = some z) : Good P o a B w0 M U w μ ob id (.d z) [] := by
  have hr := hx.repD.1
  unfold unD at h
  split at h
  · cases h
    generalize hv : a.eval x = v at hr
    cases hr
    exact Good.quiet R (by simp [execOp, ho, hv, Op.unary, Op.intArith] <;> rfl) (Val.mkInt _ _)
  · generalize hv : a.eval x = v at hr
    cases hr
    simp only [binInt, Option.some.injEq] at h
    subst h
    exact Good.quiet R (by simp [execOp, ho, hv, Op.unary, Op.intBits] <;> rfl) (Val.mkInt _ _)
  · cases h
    generalize hv : a.eval x = v at hr
    cases hr
    exact Good.quiet R (by simp [execOp, ho, hv, Op.unary] <;> rfl) (Val.mkBool _)
  · cases h

theorem good_conv (R : Rel B w0 M U w μ ob) {src dst : TypeId} {c : Cv} {x : Operand} {dx z : D} (ho : o.op = .convert src dst x) (hx : Val B U w μ ob (a.eval x) (.d dx)) {ds dd : TypeDesc} (hs : P.underlying src = some ds) (hd : P.underlying dst = some dd)
    (hc : (∃ k, c = .toInt k ∧ dd = .int k) ∨ (∃ k, c = .toFlt k ∧ dd = .float k) ∨ (c = .same ∧ dd = .string))
    (h : convD c dx = some z) : Good P o a B w0 M U w μ ob id (.d z) [] := by
  have hr := hx.repD.1
  unfold convD at h
  split at h
  · cases h
    generalize hv : a.eval x = v at hr
    cases hr
    rcases hc with ⟨k, hc, rfl⟩ | ⟨k, hc, rfl⟩ | ⟨hc, rfl⟩ <;> cases hc
    exact Good.quiet R (by simp [execOp, ho, hv, convert, run_und hs, run_und hd, Conv.intToInt] <;> rfl) (Val.mkInt _ _)
  · generalize hv : a.eval x = v at hr
    cases hr
    rcases hc with ⟨k, hc, rfl⟩ | ⟨k, hc, rfl⟩ | ⟨hc, rfl⟩ <;> cases hc
    split at h
    · rename_i n hn
      split at h
      · rename_i hb
        cases h
        exact Good.quiet R (by simp [execOp, ho, hv, convert, run_und hs, run_und hd, Conv.floatToInt, hn, hb] <;> rfl) (Val.mkInt _ _)
      · cases h
    · cases h
  · cases h
    generalize hv : a.eval x = v at hr
    cases hr
    rcases hc with ⟨k, hc, rfl⟩ | ⟨k, hc, rfl⟩ | ⟨hc, rfl⟩ <;> cases hc
    exact Good.quiet R (by simp [execOp, ho, hv, convert, run_und hs, run_und hd, Conv.intToFloat] <;> rfl) (Val.d (.flt _ _) rfl)
  · cases h
    generalize hv : a.eval x = v at hr
    cases hr
    rcases hc with ⟨k, hc, rfl⟩ | ⟨k, hc, rfl⟩ | ⟨hc, rfl⟩ <;> cases hc
    exact Good.quiet R (by simp [execOp, ho, hv, convert, run_und hs, run_und hd] <;> rfl) (Val.mkStr _)
  · cases h

theorem good_reim (R : Rel B w0 M U w μ ob) {c : Go.Call} {x : Operand} {im : Bool} {k : FloatKind} {re i : Nat} (ho : o.op = .call c) (hc : c.callee = .builtin (if im then .imag else .real)) (hargs : c.args = #[x])
    (hx : Val B U w μ ob (a.eval x) (.d (.cpx k re i))) : Good P o a B w0 M U w μ ob id (.d (.flt k (if im then i else re))) [] := by
  have hr := hx.repD.1
  generalize hv : a.eval x = v at hr
  cases hr
  have h1 : ∀ ts t, Builtin.real_ ts t #[Value.complex k re i] = pure (.float k re) := fun _ _ => rfl
  have h2 : ∀ ts t, Builtin.imag_ ts t #[Value.complex k re i] = pure (.float k i) := fun _ _ => rfl
  cases im
  · exact Good.quiet R (val := .float k re) (by simp [execOp, ho, resolve, hc, hargs, invoke, builtin, hv, h1]) (Val.d (.flt _ _) rfl)
  · exact Good.quiet R (val := .float k i) (by simp [execOp, ho, resolve, hc, hargs, invoke, builtin, hv, h2]) (Val.d (.flt _ _) rfl)

theorem good_mkcpx (R : Rel B w0 M U w μ ob) {c : Go.Call} {x y : Operand} {k : FloatKind} {re i : Nat} (ho : o.op = .call c) (hc : c.callee = .builtin .complex) (hargs : c.args = #[x, y])
    (hx : Val B U w μ ob (a.eval x) (.d (.flt k re))) (hy : Val B U w μ ob (a.eval y) (.d (.flt k i))) : Good P o a B w0 M U w μ ob id (.d (.cpx k re i)) [] := by
  have h1 := hx.repD.1
  have h2 := hy.repD.1
  generalize hv : a.eval x = v at h1
  generalize hw : a.eval y = u at h2
  cases h1
  cases h2
  have h1 : ∀ ts t, Builtin.complex_ ts t #[Value.float k re, Value.float k i] = (if k = k then pure (.complex k re i) else stuck "complex: parts of different kinds") := fun _ _ => rfl
  exact Good.quiet R (val := .complex k re i) (by simp [execOp, ho, resolve, hc, hargs, invoke, builtin, hv, hw, h1]) (Val.d (.cpx _ _ _) rfl)

theorem good_mkfn (R : Rel B w0 M U w μ ob) {f : Nat} {caps : Array Operand} {vs : List V} (ho : o.op = .makeFunc (.func f) #[] caps) (hl : RepL w (Imm B w ob μ) ob μ (caps.toList.map a.eval) vs) (hr : ∀ o ∈ refsL vs, U o) :
    Good P o a B w0 M U w μ ob id (.fn f vs) [] := by
  refine Good.quiet R (val := .func (.func f) #[] (caps.map a.eval)) (by simp [execOp, ho, Instr.makeFunc]) ⟨?_, by simpa [refsV] using hr⟩
  simp only [RepV]
  exact ⟨_, rfl, by simpa using hl⟩

theorem good_ext (R : Rel B w0 M U w μ ob) {x : Operand} {i : Nat} {vs : List V} {v : V} (ho : o.op = .extract x i) (hx : Val B U w μ ob (a.eval x) (.tup vs)) (h : vs[i]? = some v) : Good P o a B w0 M U w μ ob id v [] := by
  have h1 := hx.1
  simp only [RepV] at h1
  obtain ⟨cs, hcs, hl⟩ := h1
  have hat : ∀ {us : List Value} {xs : List V}, RepT w (Imm B w ob μ) ob μ us xs → ∀ (i : Nat) x, xs[i]? = some x → ∃ u, us[i]? = some u ∧ RepV w (Imm B w ob μ) ob μ u x := by
    intro us xs
    induction xs generalizing us with
    | nil => intro _ i x h; simp at h
    | cons y ys ih =>
      intro hl i x h
      cases us with
      | nil => simp [RepT] at hl
      | cons u us =>
        simp only [RepT] at hl
        cases i with
        | zero => simp at h; subst h; exact ⟨u, rfl, hl.1⟩
        | succ i => simpa using ih hl.2 i x (by simpa using h)
  obtain ⟨u, hu, hru⟩ := hat hl i v h
  have hu' : cs[i]? = some u := by rw [← Array.getElem?_toList]; exact hu
  refine Good.quiet R (val := u) (by simp [execOp, ho, hcs, Instr.extract, hu']) ⟨hru, fun o' ho' => hx.2 o' ?_⟩
  simp only [refsV]
  exact refsL_mem (List.mem_of_getElem? h) o' ho'

theorem good_fld (R : Rel B w0 M U w μ ob) {t : TypeId} {x : Operand} {f : Nat} {g : Bool} {n : Nat} {fs : Array Field} {fl : Field} {cells : List V} {v : V} (ho : o.op = .field t x f) (ht : P.underlying t = some (.struct fs)) (hf : fs[f]? = some fl)
    (hn : sizeT P fl.type = some n) (hg : isAggT P fl.type = some g) (hx : Val B U w μ ob (a.eval x) (.agg cells)) (h : loadFrom g n (part cells fl.offset n) = some v) : Good P o a B w0 M U w μ ob id v [] := by
  have h1 := hx.1
  simp only [RepV] at h1
  obtain ⟨cs, hcs, hl⟩ := h1
  have hlen := loadFrom_len h
  have hp := hl.part fl.offset n
  have hv := loadFrom_val (U := U) h hp (fun o' ho' => hx.2 o' (by simp only [refsV]; exact refsL_part _ _ _ o' ho'))
  refine Good.quiet R ?_ hv
  have hpl : (part cs.toList fl.offset n).length = n := by rw [hp.length]; exact hlen.1
  simp only [execOp, ho, hcs, Instr.field, Sem.run_bind, run_und ht, Result.andThen_ok, hf, asAgg, Go.part, run_isAggT hg, Sem.run_pure]
  cases g with
  | true =>
    simp only [if_true, Sem.run_bind, run_sizeT hn, Result.andThen_ok, Sem.run_pure]
    congr 2
    simp only [Value.agg.injEq]
    apply Array.ext'
    simp [part, Array.toList_extract, List.take_drop]
    try rw [show fl.offset + n - fl.offset = n by omega]
  | false =>
    have h1n := hlen.2 rfl
    subst h1n
    have : ∃ u, part cs.toList fl.offset 1 = [u] := by
      match hh : part cs.toList fl.offset 1 with
      | [] => rw [hh] at hpl; simp at hpl
      | [u] => exact ⟨u, rfl⟩
      | _ :: _ :: _ => rw [hh] at hpl; simp at hpl
    obtain ⟨u, hu⟩ := this
    have hget : cs[fl.offset]? = some u := by
      rw [← Array.getElem?_toList]
      have : (part cs.toList fl.offset 1)[0]? = some u := by rw [hu]; rfl
      simpa [part] using this
    simp [hget, hu]

theorem live_addr {v : Value} {o ver i j : Nat} (h : RepV w (Imm B w ob μ) ob μ v (.ref o ver i j)) (hl : liveRef ob o ver = true) :
    ∃ b off, v = .pointer (some ⟨b, off, none⟩) ∧ ∀ k, RepV w (Imm B w ob μ) ob μ (.pointer (some ⟨b, off + k, none⟩)) (.ref o ver i (j + k)) := by
  simp only [RepV] at h
  unfold liveRef at hl
  replace h := h.2
  split at hl
  · rename_i cells hob
    rw [hob] at h
    simp only at h
    obtain ⟨b, hi, hm, hv⟩ := h
    refine ⟨b, j, hv, fun k => ?_⟩
    simp only [RepV, hob]
    exact ⟨rfl, b, hi, hm, rfl⟩
  · rename_i v' f s e hob
    rw [hob] at h
    simp only at h
    have hver : ver = v' := by simpa using hl
    obtain ⟨b, n, c, hm, hv⟩ := h.2 hver
    refine ⟨b, i * s + j, hv, fun k => ?_⟩
    simp only [RepV, hob]
    exact ⟨rfl, h.1, fun _ => ⟨b, n, c, hm, by rw [Nat.add_assoc]⟩⟩
  · cases hl

def shiftV (k : Nat) : V → V
  | .ref o ver i j => .ref o ver i (j + k)
  | .d (.ptr c j) => .d (.ptr c (j + k))
  | v => v

theorem good_addr (R : Rel B w0 M U w μ ob) {x : Operand} {vx : V} (hx : Val B U w μ ob (a.eval x) vx) (k : Nat)
    (hv : (∃ o ver i j, vx = .ref o ver i j ∧ liveRef ob o ver = true) ∨ ∃ c j, vx = .d (.ptr c j))
    (hrun : ∀ ad : Addr, a.eval x = .pointer (some ad) → (execOp a.eval o).run P w = .ok (.value (.pointer (some (ad.add k)))) w) :
    Good P o a B w0 M U w μ ob id (shiftV k vx) [] := by
  rcases hv with ⟨o', ver, i, j, rfl, hl⟩ | ⟨c, j, rfl⟩
  · obtain ⟨b, off, he, hk⟩ := live_addr hx.1 hl
    refine Good.quiet R (hrun _ he) ⟨?_, by simpa [refsV, shiftV] using hx.2⟩
    rw [add_none]
    exact hk k
  · have h1 := hx.repD.1
    generalize hval : a.eval x = u at h1
    cases h1 with
    | ptr b base off cells vs hI hc hr =>
      refine Good.quiet R (hrun _ hval) ?_
      rw [add_none, Nat.add_assoc]
      exact Val.d (.ptr b base _ c vs hI hc hr) rfl

theorem good_fa (R : Rel B w0 M U w μ ob) {t : TypeId} {x : Operand} {f : Nat} {fs : Array Field} {fl : Field} {n : Nat} {vx : V} (ho : o.op = .fieldAddr t x f) (ht : P.underlying t = some (.struct fs)) (hf : fs[f]? = some fl)
    (hn : sizeT P fl.type = some n) (hn0 : n ≠ 0) (hx : Val B U w μ ob (a.eval x) vx)
    (hv : (∃ o ver i j, vx = .ref o ver i j ∧ liveRef ob o ver = true) ∨ ∃ c j, vx = .d (.ptr c j)) :
    Good P o a B w0 M U w μ ob id (shiftV fl.offset vx) [] := by
  refine good_addr R hx fl.offset hv fun ad had => ?_
  simp [execOp, ho, Instr.fieldAt, run_und ht, hf, had, Instr.sureAddr, fieldPlace, run_sizeT hn, hn0]

end
end Go.Proofs.Am
set_option linter.unusedVariables false
set_option linter.unusedSimpArgs false
namespace Go.Proofs.Am
open Go

section
variable {P : Program} {o : Oper} {a : Act} {w0 : World} {B M U : Nat → Prop} {w : World} {μ : Nat → Value} {ob : Heap} {id : Nat}

theorem asIdx_val {v : Value} {x : V} {k : Int} (h : Val B U w μ ob v x) (hk : asIdx x = some k) : ∃ kk, v = .int kk k := by
  unfold asIdx at hk
  split at hk
  · rename_i kk n
    cases hk
    exact ⟨kk, RepV.int h.1⟩
  · cases hk

theorem good_nilchk (R : Rel B w0 M U w μ ob) {x : Operand} {vx : V} (ho : o.op = .nilCheck x) (hx : Val B U w μ ob (a.eval x) vx)
    (hv : (∃ o ver i j, vx = .ref o ver i j ∧ liveRef ob o ver = true) ∨ (∃ c j, vx = .d (.ptr c j)) ∨ (∃ f c, vx = .fn f c) ∨ ∃ f c, vx = .d (.fn f c)) : Good P o a B w0 M U w μ ob id vx [] := by
  rcases hv with ⟨o', ver, i, j, rfl, hl⟩ | ⟨c, j, rfl⟩ | ⟨f, c, rfl⟩ | ⟨f, c, rfl⟩
  · obtain ⟨b, off, he, _⟩ := live_addr hx.1 hl
    exact Good.quiet R (by simp [execOp, ho, he]) hx
  · have h1 := hx.repD.1
    generalize hval : a.eval x = u at h1
    cases h1
    exact Good.quiet R (val := a.eval x) (by simp [execOp, ho, hval]) hx
  · have h1 := hx.1
    simp only [RepV] at h1
    obtain ⟨cs, hval, _⟩ := h1
    exact Good.quiet R (val := a.eval x) (by simp [execOp, ho, hval]) hx
  · have h1 := hx.repD.1
    generalize hval : a.eval x = u at h1
    cases h1
    exact Good.quiet R (val := a.eval x) (by simp [execOp, ho, hval]) hx

theorem good_iaa (R : Rel B w0 M U w μ ob) {t e : TypeId} {x i : Operand} {n s : Nat} {vx vi : V} {k : Int} (ho : o.op = .indexAddr t x i) (ht : P.underlying t = some (.array n e)) (hs : sizeT P e = some s)
    (hx : Val B U w μ ob (a.eval x) vx) (hi : Val B U w μ ob (a.eval i) vi) (hk : asIdx vi = some k) (h0 : 0 ≤ k) (hn : k < n)
    (hv : (∃ o ver i j, vx = .ref o ver i j ∧ liveRef ob o ver = true) ∨ ∃ c j, vx = .d (.ptr c j)) :
    Good P o a B w0 M U w μ ob id (shiftV (k.toNat * s) vx) [] := by
  obtain ⟨kk, hki⟩ := asIdx_val hi hk
  refine good_addr R hx (k.toNat * s) hv fun ad had => ?_
  simp [execOp, ho, Instr.indexAt, run_und ht, had, hki, asIntOf, Instr.sureAddr, run_sizeT hs, h0, hn]

theorem run_ia {t e : TypeId} {s : Nat} (ht : P.underlying t = some (.slice e)) (hs : sizeT P e = some s) {b off n c : Nat} {kk : IntKind} {k : Int} (h0 : 0 ≤ k) (hn : k < n) :
    (Instr.indexAt t (.slice (some ⟨b, off, none⟩) n c) (.int kk k)).run P w = .ok (.pointer (some ⟨b, off + k.toNat * s, none⟩)) w := by
  simp [Instr.indexAt, run_und ht, asIntOf, run_sizeT hs, h0, hn, add_none]

theorem good_ia_d (R : Rel B w0 M U w μ ob) {t e : TypeId} {x i : Operand} {s : Nat} {vi : V} {k : Int} {elems : List (List D)} {c : List D} (ho : o.op = .indexAddr t x i) (ht : P.underlying t = some (.slice e)) (hs : sizeT P e = some s)
    (hx : Val B U w μ ob (a.eval x) (.d (.sl elems))) (hi : Val B U w μ ob (a.eval i) vi) (hk : asIdx vi = some k) (h0 : 0 ≤ k) (he : elems[k.toNat]? = some c) (hc : c.length = s) :
    Good P o a B w0 M U w μ ob id (.d (.ptr c 0)) [] := by
  obtain ⟨kk, hki⟩ := asIdx_val hi hk
  have hlt := (List.getElem?_eq_some_iff.1 he).1
  have h1 := hx.repD.1
  generalize hval : a.eval x = u at h1
  cases h1 with
  | slE a c => simp at he
  | sl b off n c' s' elems vs hn hcap hI hel hcell hr =>
    have hss : s' = s := by rw [← hc]; exact (hel c (List.mem_of_getElem? he)).symm
    subst hss
    refine Good.quiet R (val := .pointer (some ⟨b, off + k.toNat * s', none⟩)) (by simp [execOp, ho, hval, hki, run_ia ht hs h0 (show k < n by omega)]) ?_
    have := RepD.ptr (w := w) (I := Imm B w ob μ) b (off + k.toNat * s') 0 c (fun j => vs (k.toNat * s' + j)) hI (fun j d hj => by rw [Nat.add_assoc]; exact hcell k.toNat j c d he hj) (fun j d hj => hr k.toNat j c d he hj)
    exact Val.d (by simpa using this) rfl

theorem own_addr (R : Rel B w0 M U w μ ob) {v : Value} {o' ver sz : Nat} {f : Bool} {elems : List (List D)} (h : RepV w (Imm B w ob μ) ob μ v (.own o' ver)) (hob : ob o' = some (.row ver f sz elems)) :
    v = μ o' ∧ ((v = .slice none 0 0 ∧ elems = []) ∨ ∃ b c, v = .slice (some ⟨b, 0, none⟩) elems.length c ∧ elems.length ≤ c) := by
  simp only [RepV, hob] at h
  have hv := h.2.2 trivial
  obtain ⟨_, _, xs, hown, _⟩ := R.row hob
  rw [← hv] at hown
  refine ⟨hv, hown.block.imp (fun h => ⟨h.1, List.eq_nil_of_length_eq_zero h.2⟩) id⟩

theorem good_ia_own (R : Rel B w0 M U w μ ob) {t e : TypeId} {x i : Operand} {s : Nat} {vi : V} {k : Int} {o' ver : Nat} {f : Bool} {elems : List (List D)} (ho : o.op = .indexAddr t x i) (ht : P.underlying t = some (.slice e)) (hs : sizeT P e = some s)
    (hx : Val B U w μ ob (a.eval x) (.own o' ver)) (hob : ob o' = some (.row ver f s elems)) (hi : Val B U w μ ob (a.eval i) vi) (hk : asIdx vi = some k) (h0 : 0 ≤ k) (hlt : k < elems.length) :
    Good P o a B w0 M U w μ ob id (.ref o' ver k.toNat 0) [] := by
  obtain ⟨kk, hki⟩ := asIdx_val hi hk
  obtain ⟨hv, h1 | ⟨b, c, h1, hcap⟩⟩ := own_addr R hx.1 hob
  · rw [h1.2] at hlt; simp at hlt; omega
  · refine Good.quiet R (val := .pointer (some ⟨b, 0 + k.toNat * s, none⟩)) (by simp only [execOp, ho, h1, hki, Sem.run_bind, run_ia ht hs h0 hlt, Result.andThen_ok]; rfl) ⟨?_, by simpa [refsV] using hx.2⟩
    simp only [RepV, hob]
    exact ⟨rfl, Nat.le_refl _, fun _ => ⟨b, _, c, hv.symm.trans h1, by simp⟩⟩

theorem good_ia_osl (R : Rel B w0 M U w μ ob) {t e : TypeId} {x i : Operand} {s : Nat} {vi : V} {k : Int} {o' ver off len : Nat} {f : Bool} {elems : List (List D)} (ho : o.op = .indexAddr t x i) (ht : P.underlying t = some (.slice e)) (hs : sizeT P e = some s)
    (hx : Val B U w μ ob (a.eval x) (.osl o' ver off len)) (hob : ob o' = some (.row ver f s elems)) (hi : Val B U w μ ob (a.eval i) vi) (hk : asIdx vi = some k) (h0 : 0 ≤ k) (hlt : k < len) :
    Good P o a B w0 M U w μ ob id (.ref o' ver (off + k.toNat) 0) [] := by
  obtain ⟨kk, hki⟩ := asIdx_val hi hk
  have h := hx.1
  simp only [RepV, hob] at h
  obtain ⟨A, c, hval, hcap, hA⟩ := h.2.2 trivial
  obtain ⟨b, n', c', hm, rfl⟩ := hA.resolve_left (by omega)
  refine Good.quiet R (val := .pointer (some ⟨b, off * s + k.toNat * s, none⟩)) (by simp only [execOp, ho, hval, hki, Sem.run_bind, run_ia ht hs h0 hlt, Result.andThen_ok]; rfl) ⟨?_, by simpa [refsV] using hx.2⟩
  simp only [RepV, hob]
  exact ⟨rfl, Nat.le_refl _, fun _ => ⟨b, n', c', hm, by rw [Nat.add_mul]; rfl⟩⟩

theorem good_idxs (R : Rel B w0 M U w μ ob) {t : TypeId} {x i : Operand} {s : ByteArray} {vi : V} {k : Int} {b : UInt8} (ho : o.op = .index t x i) (ht : P.underlying t = some .string)
    (hx : Val B U w μ ob (a.eval x) (.d (.str s))) (hi : Val B U w μ ob (a.eval i) vi) (hk : asIdx vi = some k) (h0 : 0 ≤ k) (hb : s.data.toList[k.toNat]? = some b) :
    Good P o a B w0 M U w μ ob id (.d (.int .u8 b.toNat)) [] := by
  obtain ⟨kk, hki⟩ := asIdx_val hi hk
  have hs := RepV.str hx.1
  have hget : s[k.toNat]? = some b := by
    have hlt := (List.getElem?_eq_some_iff.1 hb).1
    have hlt' : k.toNat < s.size := by simpa using hlt
    rw [getElem?_pos s k.toNat hlt']
    rw [List.getElem?_eq_getElem hlt] at hb
    simp at hb
    exact congrArg some hb
  exact Good.quiet R (by simp [execOp, ho, Instr.index, run_und ht, hs, hki, asIntOf, h0, hget]) (Val.mkInt _ _)

theorem part_run {t : TypeId} {n : Nat} {g : Bool} (hn : sizeT P t = some n) (hg : isAggT P t = some g) (cs : Array Value) (off : Nat) (hl : (part cs.toList off n).length = n) (h1 : g = false → n = 1) :
    (Go.part t cs off).run P w = .ok (if g then .agg (part cs.toList off n).toArray else (part cs.toList off n).headD undef) w := by
  simp only [Go.part, Sem.run_bind, run_isAggT hg, Result.andThen_ok]
  cases g with
  | true =>
    simp only [if_true, Sem.run_bind, run_sizeT hn, Result.andThen_ok, Sem.run_pure]
    congr 2
    apply Array.ext'
    simp [part, Array.toList_extract, List.take_drop]
    try rw [show off + n - off = n by omega]
  | false =>
    have h1n := h1 rfl
    subst h1n
    have : ∃ u, part cs.toList off 1 = [u] := by
      match hh : part cs.toList off 1 with
      | [] => rw [hh] at hl; simp at hl
      | [u] => exact ⟨u, rfl⟩
      | _ :: _ :: _ => rw [hh] at hl; simp at hl
    obtain ⟨u, hu⟩ := this
    have hget : cs[off]? = some u := by
      rw [← Array.getElem?_toList]
      have : (part cs.toList off 1)[0]? = some u := by rw [hu]; rfl
      simpa [part] using this
    simp [hget, hu]

theorem good_idxa (R : Rel B w0 M U w μ ob) {t e : TypeId} {x i : Operand} {n s : Nat} {g : Bool} {cells : List V} {vi v : V} {k : Int} (ho : o.op = .index t x i) (ht : P.underlying t = some (.array n e)) (hs : sizeT P e = some s) (hg : isAggT P e = some g)
    (hx : Val B U w μ ob (a.eval x) (.agg cells)) (hi : Val B U w μ ob (a.eval i) vi) (hk : asIdx vi = some k) (h0 : 0 ≤ k) (hn : k < n) (h : loadFrom g s (part cells (k.toNat * s) s) = some v) :
    Good P o a B w0 M U w μ ob id v [] := by
  obtain ⟨kk, hki⟩ := asIdx_val hi hk
  have h1 := hx.1
  simp only [RepV] at h1
  obtain ⟨cs, hcs, hl⟩ := h1
  have hlen := loadFrom_len h
  have hp := hl.part (k.toNat * s) s
  have hv := loadFrom_val (U := U) h hp (fun o' ho' => hx.2 o' (by simp only [refsV]; exact refsL_part _ _ _ o' ho'))
  refine Good.quiet R ?_ hv
  simp [execOp, ho, Instr.index, run_und ht, hcs, hki, asIntOf, h0, hn, run_sizeT hs, part_run hs hg cs (k.toNat * s) (by rw [hp.length]; exact hlen.1) hlen.2]

/-! ### lengths -/
theorem elemsOf_len (R : Rel B w0 M U w μ ob) {x : V} {v : Value} {e : List (List D)} (hx : Val B U w μ ob v x) (h : elemsOf ob x = some e) :
    (∃ A c, v = .slice A e.length c) ∨ (∃ s, v = .string s ∧ e.length = s.size) := by
  unfold elemsOf at h
  split at h
  · cases h
    have := hx.1
    simp only [RepV] at this
    exact .inl ⟨_, _, this⟩
  · cases h
    have h1 := hx.repD.1
    cases h1 with
    | slE a c => exact .inl ⟨a, c, rfl⟩
    | sl b off n c s elems vs hn _ _ _ _ _ => subst hn; exact .inl ⟨_, _, rfl⟩
  · cases h
    exact .inr ⟨_, RepV.str hx.1, by simp [bytesD]⟩
  · rename_i o' ver
    split at h
    · rename_i v' f s e' hob
      split at h
      · rename_i hver
        cases h
        subst hver
        obtain ⟨hv, h1 | ⟨b, c, h1, hcap⟩⟩ := own_addr R hx.1 hob
        · rw [h1.2]; exact .inl ⟨_, _, h1.1⟩
        · exact .inl ⟨_, _, h1⟩
      · cases h
    · cases h
  · rename_i o' ver off len
    split at h
    · rename_i v' f s e' hob
      split at h
      · rename_i hver
        cases h
        have h1 := hx.1
        simp only [RepV, hob] at h1
        obtain ⟨A, c, hval, hcap, hA⟩ := h1.2.2 hver.1
        have : (rowPart e' off len).length = len := by simp [rowPart]; omega
        rw [this]
        exact .inl ⟨_, _, hval⟩
      · cases h
    · cases h
  · cases h

theorem good_len (R : Rel B w0 M U w μ ob) {c : Go.Call} {x : Operand} {vx : V} {e : List (List D)} {t el : TypeId} (ho : o.op = .call c) (hc : c.callee = .builtin .len) (hargs : c.args = #[x]) (ht : c.argTypes[0]? = some t)
    (hu : P.underlying t = some (.slice el)) (hx : Val B U w μ ob (a.eval x) vx) (hns : ∀ s, vx ≠ .d (.str s)) (h : elemsOf ob vx = some e) : Good P o a B w0 M U w μ ob id (.d (.int .i64 e.length)) [] := by
  rcases elemsOf_len R hx h with ⟨A, c', hv⟩ | ⟨s, hv, hs⟩
  · exact Good.quiet R (by simp [execOp, ho, resolve, hc, hargs, invoke, builtin, Builtin.len_, ht, hv, run_und hu, goInt]) (Val.mkInt _ _)
  · exfalso
    unfold elemsOf at h
    split at h
    · have := hx.1; simp only [RepV] at this; rw [this] at hv; cases hv
    · have h1 := hx.repD.1; rw [hv] at h1; cases h1
    · exact hns _ rfl
    · rename_i o' ver
      split at h
      · rename_i v' f s' e' hob
        split at h
        · rename_i hver
          subst hver
          obtain ⟨_, h1 | ⟨b, c, h1, _⟩⟩ := own_addr R hx.1 hob
          · rw [h1.1] at hv; cases hv
          · rw [h1] at hv; cases hv
        · cases h
      · cases h
    · rename_i o' ver off len
      split at h
      · rename_i v' f s' e' hob
        split at h
        · rename_i hver
          have h1 := hx.1
          simp only [RepV, hob] at h1
          obtain ⟨A, c, hval, _⟩ := h1.2.2 hver.1
          rw [hval] at hv; cases hv
        · cases h
      · cases h
    · cases h

theorem good_slen (R : Rel B w0 M U w μ ob) {c : Go.Call} {x : Operand} {s : ByteArray} {t : TypeId} (ho : o.op = .call c) (hc : c.callee = .builtin .len) (hargs : c.args = #[x]) (ht : c.argTypes[0]? = some t)
    (hu : P.underlying t = some .string) (hx : Val B U w μ ob (a.eval x) (.d (.str s))) : Good P o a B w0 M U w μ ob id (.d (.int .i64 s.size)) [] := by
  have hv := RepV.str hx.1
  exact Good.quiet R (by simp [execOp, ho, resolve, hc, hargs, invoke, builtin, Builtin.len_, ht, hv, run_und hu, goInt]) (Val.mkInt _ _)

theorem good_lenc (R : Rel B w0 M U w μ ob) {c : Go.Call} {x : Operand} {t e : TypeId} {n : Nat} (ho : o.op = .call c) (hc : c.callee = .builtin .len) (hargs : c.args = #[x]) (ht : c.argTypes[0]? = some t) (hu : P.underlying t = some (.array n e)) :
    Good P o a B w0 M U w μ ob id (.d (.int .i64 n)) [] :=
  Good.quiet R (by simp [execOp, ho, resolve, hc, hargs, invoke, builtin, Builtin.len_, ht, run_und hu, goInt]) (Val.mkInt _ _)

/-! ### slices -/
theorem run_bound {v : Value} {kk : IntKind} {k : Int} {y : Nat} {code : BoundsCode} (hv : v = .int kk k) (h0 : 0 ≤ k) (h1 : k ≤ y) : (Instr.sliceBound v y code).run P w = .ok k.toNat w := by
  subst hv
  simp [Instr.sliceBound, asIntOf, h0, h1]

/-- what the bounds of a slice expression are -/
def boundIs (a : Act) (o : Option Operand) (k : Int) : Prop := match o with
  | none => True
  | some x => ∃ kk, a.eval x = .int kk k

theorem run_bounds {isS : Bool} {len cap : Nat} {lo hi : Option Operand} {l h : Int} (hl : boundIs a lo l) (hh : boundIs a hi h) (hlo : lo = none → l = 0) (hhi : hi = none → h = len)
    (h0 : 0 ≤ l) (h1 : l ≤ h) (h2 : h ≤ len) (h3 : len ≤ cap) : (Instr.sliceBounds isS len cap (lo.map a.eval) (hi.map a.eval) none).run P w = .ok (l.toNat, h.toNat, cap) w := by
  have e1 : ∀ code, (match hi.map a.eval with | some v => Instr.sliceBound v cap code | none => pure len : Sem Nat).run P w = .ok h.toNat w := fun code => by
    cases hi with
    | none => simp [hhi rfl]
    | some x => obtain ⟨kk, hk⟩ := hh; simp [run_bound hk (by omega) (show h ≤ cap by omega)]
  have e2 : ∀ code, (match lo.map a.eval with | some v => Instr.sliceBound v h.toNat code | none => pure 0 : Sem Nat).run P w = .ok l.toNat w := fun code => by
    cases lo with
    | none => simp [hlo rfl]
    | some x => obtain ⟨kk, hk⟩ := hl; simp [run_bound hk h0 (show l ≤ (h.toNat : Int) by omega)]
  unfold Instr.sliceBounds
  cases hi with
  | none =>
    have := hhi rfl
    cases lo with
    | none => simp [hlo rfl, this]
    | some x =>
      obtain ⟨kk, hk⟩ := hl
      have hln : (h.toNat) = len := by omega
      simp [run_bound (y := len) hk h0 (show l ≤ (len : Int) by omega), hln]
  | some y =>
    obtain ⟨kk, hk⟩ := hh
    cases lo with
    | none => simp [hlo rfl, run_bound (y := cap) hk (by omega) (show h ≤ (cap : Int) by omega)]
    | some x =>
      obtain ⟨kk', hk'⟩ := hl
      simp [run_bound (y := cap) hk (by omega) (show h ≤ (cap : Int) by omega), run_bound (y := h.toNat) hk' h0 (show l ≤ (h.toNat : Int) by omega)]

theorem run_slice {t e : TypeId} {s : Nat} (ht : P.underlying t = some (.slice e)) (hs : sizeT P e = some s) {A : Option Addr} {len cap : Nat} {lo hi : Option Operand} {l h : Int} (hl : boundIs a lo l) (hh : boundIs a hi h) (hlo : lo = none → l = 0) (hhi : hi = none → h = len)
    (h0 : 0 ≤ l) (h1 : l ≤ h) (h2 : h ≤ len) (h3 : len ≤ cap) :
    (Instr.sliceAt t (.slice A len cap) (lo.map a.eval) (hi.map a.eval) none).run P w = .ok (.slice (if cap = l.toNat then A else A.map (·.add (l.toNat * s))) (h.toNat - l.toNat) (cap - l.toNat)) w := by
  simp [Instr.sliceAt, Instr.slice, run_und ht, run_bounds (P := P) (w := w) (isS := true) hl hh hlo hhi h0 h1 h2 h3, run_sizeT hs]

theorem good_slice_str (R : Rel B w0 M U w μ ob) {t : TypeId} {x : Operand} {lo hi : Option Operand} {s : ByteArray} {l h : Int} (ho : o.op = .slice t x lo hi none) (ht : P.underlying t = some .string)
    (hx : Val B U w μ ob (a.eval x) (.d (.str s))) (hl : boundIs a lo l) (hh : boundIs a hi h) (hlo : lo = none → l = 0) (hhi : hi = none → h = s.size) (h0 : 0 ≤ l) (h1 : l ≤ h) (h2 : h ≤ s.size) :
    Good P o a B w0 M U w μ ob id (.d (.str (s.extract l.toNat h.toNat))) [] := by
  have hs := RepV.str hx.1
  refine Good.quiet R ?_ (Val.mkStr _)
  simp [execOp, ho, Instr.sliceAt, Instr.slice, run_und ht, hs, run_bounds (P := P) (w := w) (isS := false) hl hh hlo hhi h0 h1 h2 (Nat.le_refl _)]

end
end Go.Proofs.Am
set_option linter.unusedVariables false
set_option linter.unusedSimpArgs false
namespace Go.Proofs.Am
open Go

section
variable {P : Program} {o : Oper} {a : Act} {w0 : World} {B M U : Nat → Prop} {w : World} {μ : Nat → Value} {ob : Heap} {id : Nat}

theorem good_slice_d (R : Rel B w0 M U w μ ob) {t e : TypeId} {x : Operand} {lo hi : Option Operand} {s : Nat} {elems : List (List D)} {l h : Int} (ho : o.op = .slice t x lo hi none) (ht : P.underlying t = some (.slice e)) (hs : sizeT P e = some s)
    (hx : Val B U w μ ob (a.eval x) (.d (.sl elems))) (hl : boundIs a lo l) (hh : boundIs a hi h) (hlo : lo = none → l = 0) (hhi : hi = none → h = elems.length) (h0 : 0 ≤ l) (h1 : l ≤ h) (h2 : h ≤ elems.length) (hok : lenOK s elems[l.toNat]? = true) :
    Good P o a B w0 M U w μ ob id (.d (.sl (rowPart elems l.toNat (h.toNat - l.toNat)))) [] := by
  have hr := hx.repD.1
  generalize hval : a.eval x = u at hr
  cases hr with
  | slE A c =>
    simp at h2
    have hl0 : l = 0 := by omega
    have hh0 : h = 0 := by omega
    subst hl0
    subst hh0
    refine Good.quiet R (val := .slice (if c = 0 then A else A.map (·.add (0 * s))) 0 (c - 0)) ?_ ?_
    · have := run_slice (P := P) (w := w) ht hs (A := A) (len := 0) (cap := c) hl hh hlo hhi (Int.le_refl 0) (Int.le_refl 0) (by omega) (by omega)
      simp only [execOp, ho, hval, Option.map_none, Sem.run_bind, this, Result.andThen_ok]
      simp
    · simp only [rowPart, List.drop_nil, List.take_nil]
      exact Val.d (.slE _ _) rfl
  | sl b off n c s' elems vs hn hcap hI hel hcell hrep =>
    subst hn
    refine Good.quiet R (val := .slice (if c = l.toNat then some ⟨b, off, none⟩ else (some (⟨b, off, none⟩ : Addr)).map (·.add (l.toNat * s))) (h.toNat - l.toNat) (c - l.toNat)) ?_ ?_
    · have := run_slice (P := P) (w := w) ht hs (A := some ⟨b, off, none⟩) (len := elems.length) (cap := c) hl hh hlo hhi h0 h1 h2 hcap
      simp only [execOp, ho, hval, Option.map_none, Sem.run_bind, this, Result.andThen_ok]
      simp
    · rcases Nat.eq_zero_or_pos (h.toNat - l.toNat) with hz | hz
      · rw [hz]
        simp only [rowPart, List.take_zero]
        exact Val.d (.slE _ _) rfl
      · have hne : ¬ c = l.toNat := by omega
        rw [if_neg hne]
        have hlt : l.toNat < elems.length := by omega
        have hss : s' = s := by
          have hg : elems[l.toNat]? = some (elems[l.toNat]'hlt) := List.getElem?_eq_getElem hlt
          rw [hg] at hok
          simp only [lenOK, beq_iff_eq] at hok
          rw [← hok]
          exact (hel _ (List.getElem_mem hlt)).symm
        subst hss
        have hpart : ∀ i e', (rowPart elems l.toNat (h.toNat - l.toNat))[i]? = some e' → elems[l.toNat + i]? = some e' := fun i e' he => by
          simp only [rowPart, List.getElem?_take] at he
          split at he
          · rwa [List.getElem?_drop] at he
          · cases he
        refine Val.d ?_ rfl
        simp only [Option.map_some, add_none]
        refine .sl b (off + l.toNat * s') _ _ s' _ (fun k => vs (l.toNat * s' + k)) (by simp [rowPart]; omega) (by omega) hI (fun e' he => hel e' (List.mem_of_mem_drop (List.mem_of_mem_take he))) (fun i j e' d he hd => ?_) (fun i j e' d he hd => ?_)
        · have := hcell _ j e' d (hpart i e' he) hd
          rw [Nat.add_mul] at this
          have e1 : off + l.toNat * s' + (i * s' + j) = off + (l.toNat * s' + i * s' + j) := by omega
          have e2 : l.toNat * s' + (i * s' + j) = l.toNat * s' + i * s' + j := by omega
          rw [e1, e2]
          exact this
        · have := hrep _ j e' d (hpart i e' he) hd
          rw [Nat.add_mul] at this
          have e2 : l.toNat * s' + (i * s' + j) = l.toNat * s' + i * s' + j := by omega
          rw [e2]
          exact this

theorem good_slice_nsl (R : Rel B w0 M U w μ ob) {t e : TypeId} {x : Operand} {lo hi : Option Operand} {s : Nat} (ho : o.op = .slice t x lo hi none) (ht : P.underlying t = some (.slice e)) (hs : sizeT P e = some s)
    (hx : Val B U w μ ob (a.eval x) .nsl) (hl : boundIs a lo 0) (hh : boundIs a hi 0) : Good P o a B w0 M U w μ ob id .nsl [] := by
  have h1 := hx.1
  simp only [RepV] at h1
  refine Good.quiet R (val := .slice none 0 0) ?_ (by rw [h1] at hx; exact hx)
  have := run_slice (P := P) (w := w) ht hs (A := none) (len := 0) (cap := 0) hl hh (fun _ => rfl) (fun _ => rfl) (Int.le_refl 0) (Int.le_refl 0) (by omega) (by omega)
  simp only [execOp, ho, h1, Option.map_none, Sem.run_bind, this, Result.andThen_ok]
  simp

theorem good_slice_own (R : Rel B w0 M U w μ ob) {t e : TypeId} {x : Operand} {lo hi : Option Operand} {s o' ver : Nat} {f : Bool} {elems : List (List D)} {l h : Int} (ho : o.op = .slice t x lo hi none) (ht : P.underlying t = some (.slice e)) (hs : sizeT P e = some s)
    (hx : Val B U w μ ob (a.eval x) (.own o' ver)) (hob : ob o' = some (.row ver f s elems)) (hl : boundIs a lo l) (hh : boundIs a hi h) (hlo : lo = none → l = 0) (hhi : hi = none → h = elems.length) (h0 : 0 ≤ l) (h1 : l ≤ h) (h2 : h ≤ elems.length) :
    Good P o a B w0 M U w μ ob id (.osl o' ver l.toNat (h.toNat - l.toNat)) [] := by
  obtain ⟨hv, hn | ⟨b, c, hval, hcap⟩⟩ := own_addr R hx.1 hob
  · obtain ⟨hval, rfl⟩ := hn
    simp at h2
    have hl0 : l = 0 := by omega
    have hh0 : h = 0 := by omega
    subst hl0
    subst hh0
    refine Good.quiet R (val := .slice none 0 0) ?_ ⟨?_, by simpa [refsV] using hx.2⟩
    · have := run_slice (P := P) (w := w) ht hs (A := none) (len := 0) (cap := 0) hl hh hlo hhi (Int.le_refl 0) (Int.le_refl 0) (by omega) (by omega)
      simp only [execOp, ho, hval, Option.map_none, Sem.run_bind, this, Result.andThen_ok]
      simp
    · simp only [RepV, hob]
      exact ⟨rfl, Nat.le_refl _, fun _ => ⟨none, 0, rfl, by simp, .inl (by simp)⟩⟩
  · refine Good.quiet R (val := .slice (if c = l.toNat then some ⟨b, 0, none⟩ else (some (⟨b, 0, none⟩ : Addr)).map (·.add (l.toNat * s))) (h.toNat - l.toNat) (c - l.toNat)) ?_ ⟨?_, by simpa [refsV] using hx.2⟩
    · have := run_slice (P := P) (w := w) ht hs (A := some ⟨b, 0, none⟩) (len := elems.length) (cap := c) hl hh hlo hhi h0 h1 h2 hcap
      simp only [execOp, ho, hval, Option.map_none, Sem.run_bind, this, Result.andThen_ok]
      simp
    · simp only [RepV, hob]
      refine ⟨rfl, Nat.le_refl _, fun _ => ⟨_, _, rfl, by omega, ?_⟩⟩
      rcases Nat.eq_zero_or_pos (h.toNat - l.toNat) with hz | hz
      · exact .inl hz
      · have hne : ¬ c = l.toNat := by omega
        rw [if_neg hne]
        exact .inr ⟨b, _, c, hv.symm.trans hval, by simp [add_none]⟩

theorem good_slice_osl (R : Rel B w0 M U w μ ob) {t e : TypeId} {x : Operand} {lo hi : Option Operand} {s o' ver off len : Nat} {f : Bool} {elems : List (List D)} {l h : Int} (ho : o.op = .slice t x lo hi none) (ht : P.underlying t = some (.slice e)) (hs : sizeT P e = some s)
    (hx : Val B U w μ ob (a.eval x) (.osl o' ver off len)) (hob : ob o' = some (.row ver f s elems)) (hl : boundIs a lo l) (hh : boundIs a hi h) (hlo : lo = none → l = 0) (hhi : hi = none → h = len) (h0 : 0 ≤ l) (h1 : l ≤ h) (h2 : h ≤ len) :
    Good P o a B w0 M U w μ ob id (.osl o' ver (off + l.toNat) (h.toNat - l.toNat)) [] := by
  have hr := hx.1
  simp only [RepV, hob] at hr
  obtain ⟨A, c, hval, hcap, hA⟩ := hr.2.2 trivial
  refine Good.quiet R (val := .slice (if c = l.toNat then A else A.map (·.add (l.toNat * s))) (h.toNat - l.toNat) (c - l.toNat)) ?_ ⟨?_, by simpa [refsV] using hx.2⟩
  · have := run_slice (P := P) (w := w) ht hs (A := A) (len := len) (cap := c) hl hh hlo hhi h0 h1 h2 hcap
    simp only [execOp, ho, hval, Option.map_none, Sem.run_bind, this, Result.andThen_ok]
    simp
  · simp only [RepV, hob]
    refine ⟨rfl, Nat.le_refl _, fun _ => ⟨_, _, rfl, by omega, ?_⟩⟩
    rcases Nat.eq_zero_or_pos (h.toNat - l.toNat) with hz | hz
    · exact .inl hz
    · have hne : ¬ c = l.toNat := by omega
      rw [if_neg hne]
      obtain ⟨b, n', c', hm, rfl⟩ := hA.resolve_left (by omega)
      exact .inr ⟨b, n', c', hm, by simp [add_none, Nat.add_mul]⟩

/-! ### least and greatest -/
theorem good_minmax2 (R : Rel B w0 M U w μ ob) {c : Go.Call} {x y : Operand} {mx : Bool} {k k' : IntKind} {m n : Int} (ho : o.op = .call c) (hc : c.callee = .builtin (if mx then .max else .min)) (hargs : c.args = #[x, y])
    (hx : Val B U w μ ob (a.eval x) (.d (.int k m))) (hy : Val B U w μ ob (a.eval y) (.d (.int k' n))) :
    Good P o a B w0 M U w μ ob id (.d (.int k (if mx then (if n > m then n else m) else (if n < m then n else m)))) [] := by
  have e1 := RepV.int hx.1
  have e2 := RepV.int hy.1
  cases mx
  · exact Good.quiet R (val := .int k (if n < m then n else m)) (by simp [execOp, ho, resolve, hc, hargs, invoke, builtin, e1, e2, Builtin.min_, Builtin.min2]) (Val.mkInt _ _)
  · exact Good.quiet R (val := .int k (if n > m then n else m)) (by simp [execOp, ho, resolve, hc, hargs, invoke, builtin, e1, e2, Builtin.max_, Builtin.max2]) (Val.mkInt _ _)

theorem good_minmax3 (R : Rel B w0 M U w μ ob) {c : Go.Call} {x y z : Operand} {mx : Bool} {k k' k'' : IntKind} {m n q : Int} (ho : o.op = .call c) (hc : c.callee = .builtin (if mx then .max else .min)) (hargs : c.args = #[x, y, z])
    (hx : Val B U w μ ob (a.eval x) (.d (.int k m))) (hy : Val B U w μ ob (a.eval y) (.d (.int k' n))) (hz : Val B U w μ ob (a.eval z) (.d (.int k'' q))) :
    Good P o a B w0 M U w μ ob id (.d (.int k (if mx then (let m := if n > m then n else m; if q > m then q else m) else (let m := if n < m then n else m; if q < m then q else m)))) [] := by
  have e1 := RepV.int hx.1
  have e2 := RepV.int hy.1
  have e3 := RepV.int hz.1
  cases mx
  · exact Good.quiet R (val := .int k (let m := if n < m then n else m; if q < m then q else m)) (by simp [execOp, ho, resolve, hc, hargs, invoke, builtin, e1, e2, e3, Builtin.min_, Builtin.min2]) (Val.mkInt _ _)
  · exact Good.quiet R (val := .int k (let m := if n > m then n else m; if q > m then q else m)) (by simp [execOp, ho, resolve, hc, hargs, invoke, builtin, e1, e2, e3, Builtin.max_, Builtin.max2]) (Val.mkInt _ _)

end
end Go.Proofs.Am
set_option linter.unusedVariables false
set_option linter.unusedSimpArgs false
namespace Go.Proofs.Am
open Go

theorem foldl_set (off : Nat) : ∀ (l : List Value) (k : Nat) (cells : Array Value),
    ((l.zipIdx k).foldl (fun cs (p : Value × Nat) => cs.setIfInBounds (off + p.2) p.1) cells).toList = setCells cells.toList (off + k) l
  | [], k, cells => by simp [setCells]
  | v :: r, k, cells => by
    simp only [List.zipIdx_cons, List.foldl_cons, setCells]
    rw [foldl_set off r (k + 1)]
    simp [Nat.add_assoc]

theorem fill_one (v : Value) (off : Nat) (cells : Array Value) : (v.cells.zipIdx.foldl (fun cs (p : Value × Nat) => cs.setIfInBounds (off + p.2) p.1) cells).toList = setCells cells.toList off v.cells.toList := by
  have := foldl_set off v.cells.toList 0 cells
  rw [Nat.add_zero] at this
  rw [← this, ← Array.foldl_toList]
  simp

section
variable {P : Program} {o : Oper} {a : Act} {w0 : World} {B M U : Nat → Prop} {w : World} {μ : Nat → Value} {ob : Heap} {id : Nat}

theorem RepL.setCells {I : Nat → Prop} : ∀ {ws : List Value} {ys : List V} {vs : List Value} {xs : List V} (off : Nat), RepL w I ob μ vs xs → RepL w I ob μ ws ys → RepL w I ob μ (setCells vs off ws) (setCells xs off ys)
  | [], [], vs, xs, off, h, _ => by simpa [Am.setCells] using h
  | [], _ :: _, _, _, _, _, h => by simp [RepL] at h
  | _ :: _, [], _, _, _, _, h => by simp [RepL] at h
  | u :: ws, y :: ys, vs, xs, off, h, k => by
    simp only [RepL] at k
    simp only [Am.setCells]
    refine RepL.setCells (off + 1) (RepL.mk (by simp [h.length]) fun i v x h1 h2 => ?_) k.2
    rw [List.getElem?_set] at h1 h2
    by_cases hi : off = i
    · rw [if_pos hi] at h1 h2
      subst hi
      split at h1
      · split at h2
        · cases h1; cases h2; exact k.1
        · cases h2
      · cases h1
    · rw [if_neg hi] at h1 h2
      exact h.at i v x h1 h2
theorem refsL_setCells : ∀ (ys xs : List V) (off : Nat), ∀ o ∈ refsL (setCells xs off ys), o ∈ refsL xs ∨ o ∈ refsL ys
  | [], xs, off, o, h => .inl (by simpa [Am.setCells] using h)
  | y :: ys, xs, off, o, h => by
    simp only [Am.setCells] at h
    rcases refsL_setCells ys _ _ o h with h | h
    · obtain ⟨x, hx, ho⟩ := refsL_of h
      rcases List.mem_or_eq_of_mem_set hx with hx | rfl
      · exact .inl (refsL_mem hx o ho)
      · exact .inr (by simp [refsL, ho])
    · exact .inr (by simp [refsL, h])

/-- parts that are laid one by one -/
theorem fill_rep (place : Nat → Option (Nat × Nat)) : ∀ (ps : List (Nat × Operand)) (xs : List (Nat × Nat × X)) (s : St) (zc : Array Value) (zero cs : List V), Slots B U w μ ob a.tmps s.sl →
    compParts P place ps = some xs → RepL w (Imm B w ob μ) ob μ zc.toList zero → (∀ o ∈ refsL zero, U o) →
    buildOn zero (xs.map fun p => (p.1, p.2.1, s.val p.2.2)) = some cs →
    ∃ c, Instr.fill place zc (ps.map fun p => (p.1, a.eval p.2)) = some c ∧ RepL w (Imm B w ob μ) ob μ c.toList cs ∧ ∀ o ∈ refsL cs, U o := by
  intro ps
  induction ps with
  | nil =>
    intro xs s zc zero cs hs hp hz hr hb
    simp [compParts, mapO] at hp
    subst hp
    simp [buildOn] at hb
    subst hb
    exact ⟨zc, rfl, hz, hr⟩
  | cons p r ih =>
    intro xs s zc zero cs hs hp hz hr hb
    simp only [compParts, mapO, Option.bind_eq_some_iff, Option.map_eq_some_iff] at hp
    obtain ⟨q, ⟨⟨off, n⟩, hpl, x, hx, rfl⟩, xs', hxs, hq⟩ := hp
    cases hq
    simp only [List.map_cons, buildOn, Option.bind_eq_some_iff] at hb
    obtain ⟨vc, hvc, hb⟩ := hb
    split at hb
    · rename_i hc
      have hv := compX_val (a := a) hs hx
      have hcells := hv.1.cells hvc
      have hsz : (a.eval p.2).cells.size = n := by
        have := hcells.length
        simp at this
        omega
      have hzl : zc.size = zero.length := by
        have := hz.length
        simpa using this
      have hfill : Instr.fill place zc ((p :: r).map fun p => (p.1, a.eval p.2)) = Instr.fill place ((a.eval p.2).cells.zipIdx.foldl (fun cs (p : Value × Nat) => cs.setIfInBounds (off + p.2) p.1) zc) (r.map fun p => (p.1, a.eval p.2)) := by
        simp only [List.map_cons, Instr.fill, hpl]
        rw [if_neg (by simp [hsz]; omega)]
      rw [hfill]
      refine ih xs' s _ _ cs hs hxs ?_ ?_ hb
      · rw [fill_one]
        exact hz.setCells off hcells
      · intro o' ho'
        rcases refsL_setCells _ _ _ o' ho' with h | h
        · exact hr o' h
        · rw [refs_cells hvc] at h
          exact hv.2 o' h
    · cases hb

theorem mapM_run {α : Type} (f : Field → Sem α) (g : Field → α) : ∀ l : List Field, (∀ x ∈ l, (f x).run P w = .ok (g x) w) → (l.mapM f).run P w = .ok (l.map g) w
  | [], _ => by simp
  | x :: r, h => by
    simp only [List.mapM_cons, Sem.run_bind, h x (by simp), Result.andThen_ok, mapM_run f g r fun y hy => h y (by simp [hy]), Sem.run_pure, List.map_cons]

theorem good_build (R : Rel B w0 M U w μ ob) {s : St} {t : TypeId} {parts : Array (Nat × Operand)} {z : List V} {ps : List (Nat × Nat × X)} {cs : List V} (ho : o.op = .build t parts) (hs : Slots B U w μ ob a.tmps s.sl) (hz : zeroV P t = some z)
    (hp : (∃ fs, P.underlying t = some (.struct fs) ∧ (fs.toList.all fun f => (sizeT P f.type).isSome) = true ∧ compParts P (fieldsAt P fs) parts.toList = some ps) ∨
      (∃ m e n, P.underlying t = some (.array m e) ∧ sizeT P e = some n ∧ compParts P (fun i => some (i * n, n)) parts.toList = some ps))
    (h : buildOn z (ps.map fun p => (p.1, p.2.1, s.val p.2.2)) = some cs) : Good P o a B w0 M U w μ ob id (.agg cs) [] := by
  simp only [zeroV, Option.bind_eq_some_iff] at hz
  obtain ⟨zv, hz, hm⟩ := hz
  have hl := valL_rep (w := w) (I := Imm B w ob μ) (ob := ob) (μ := μ) hm
  rcases hp with ⟨fs, hu, hall, hp⟩ | ⟨m, e, n, hu, hn, hp⟩
  · obtain ⟨c, hc, hrep, hrefs⟩ := fill_rep (P := P) (U := U) (fieldsAt P fs) parts.toList ps s zv.cells z cs hs hp hl.1 (by simp [hl.2]) h
    refine Good.quiet R (val := .agg c) ?_ ⟨by simp only [RepV]; exact ⟨c, rfl, hrep⟩, by simpa [refsV] using hrefs⟩
    have hplaces : (fs.mapM fun f => do pure (f.offset, ← sizeOf f.type) : Sem (Array (Nat × Nat))).run P w = .ok (fs.toList.map fun f => (f.offset, (sizeT P f.type).getD 0)).toArray w := by
      rw [Array.mapM_eq_mapM_toList]
      simp only [Sem.run_map]
      rw [mapM_run (fun f => do pure (f.offset, ← sizeOf f.type)) (fun f => (f.offset, (sizeT P f.type).getD 0)) fs.toList fun f hf => ?_]
      · rfl
      · have := List.all_eq_true.1 hall f hf
        obtain ⟨n, hn⟩ := Option.isSome_iff_exists.1 this
        simp [run_sizeT hn, hn]
    have hfill : Instr.fill ((fs.toList.map fun f => (f.offset, (sizeT P f.type).getD 0)).toArray[·]?) zv.cells (parts.map fun (p : Nat × Operand) => (p.1, a.eval p.2)).toList = some c := by
      rw [← hc]
      congr 1
      · funext i
        simp only [fieldsAt, List.getElem?_toArray, List.getElem?_map, Array.getElem?_toList]
        cases hf : fs[i]? with
        | none => rfl
        | some f =>
          have := List.all_eq_true.1 hall f (by rw [← Array.getElem?_toList] at hf; exact List.mem_of_getElem? hf)
          obtain ⟨n, hn⟩ := Option.isSome_iff_exists.1 this
          simp [hn]
      · simp
    simp only [execOp, ho, Instr.build, Sem.run_bind, run_zeroT hz, Result.andThen_ok, run_und hu, hplaces]
    simp only [hfill, Sem.run_pure, Result.andThen_ok]
  · obtain ⟨c, hc, hrep, hrefs⟩ := fill_rep (P := P) (U := U) (fun i => some (i * n, n)) parts.toList ps s zv.cells z cs hs hp hl.1 (by simp [hl.2]) h
    refine Good.quiet R (val := .agg c) ?_ ⟨by simp only [RepV]; exact ⟨c, rfl, hrep⟩, by simpa [refsV] using hrefs⟩
    have hfill : Instr.fill (fun i => some (i * n, n)) zv.cells (parts.map fun (p : Nat × Operand) => (p.1, a.eval p.2)).toList = some c := by
      rw [← hc]
      congr 1
      simp
    simp only [execOp, ho, Instr.build, Sem.run_bind, run_zeroT hz, Result.andThen_ok, run_und hu, run_sizeT hn, hfill, Sem.run_pure]

/-! ### stores -/
theorem good_store_box (R : Rel B w0 M U w μ ob) {t : TypeId} {x y : Operand} {n o' ver j : Nat} {cells cs : List V} {vy : V} (ho : o.op = .store t x y) (hn : sizeT P t = some n)
    (hx : Val B U w μ ob (a.eval x) (.ref o' ver 0 j)) (hob : ob o' = some (.box cells)) (hy : Val B U w μ ob (a.eval y) vy) (hc : cellsOf vy = some cs) (hl : cs.length = n) (hj : j + n ≤ cells.length) :
    Good P o a B w0 M U w μ ob id .undef [(o', .box (setCells cells j cs))] := by
  have h1 := hx.1
  simp only [RepV, hob] at h1
  obtain ⟨_, b, _, hm, hval⟩ := h1
  obtain ⟨b', c, e, h2, h3, h4⟩ := R.ok o' _ hob
  rw [hm] at h2
  cases h2
  have hcells := hy.1.cells hc
  have hsz : (a.eval y).cells.size = n := by have := hcells.length; simp at this; omega
  have hcl : c.size = cells.length := by have := h4.length; simpa using this
  have hrun := run_storeVar' (P := P) (w := w) hn b j e (a.eval y) hsz c h3 (by omega) hcells.one
  have hlist : c.toList.take j ++ (a.eval y).cells.toList ++ c.toList.drop (j + n) = setCells c.toList j (a.eval y).cells.toList := by
    rw [setCells_eq _ _ _ (by simp [hsz]; omega)]
    simp [hsz]
  rw [hlist] at hrun
  have S := R.write o' (.box cells) (.box (setCells cells j cs)) hob rfl b (by rw [hm]; rfl) (setCells c.toList j (a.eval y).cells.toList).toArray
    (fun o'' ho'' => by
      simp only [refsO] at ho''
      rcases refsL_setCells _ _ _ o'' ho'' with h | h
      · exact (R.used o' _ hob).2 o'' h
      · rw [refs_cells hc] at h; exact hy.2 o'' h)
    (by unfold Keep; rw [hob, upd_eq])
    (fun w' ob' hw' hI hw hk => ⟨b, (setCells c.toList j (a.eval y).cells.toList).toArray, e, hm, by rw [hw']; exact setRow_heap w b c _ e _ h3, by
      refine RepL.mono hI hw _ _ (fun o'' ho'' => hk o'' ?_) (by simpa using h4.setCells j hcells)
      rcases refsL_setCells _ _ _ o'' ho'' with h | h
      · exact (R.used o' _ hob).2 o'' h
      · rw [refs_cells hc] at h; exact hy.2 o'' h⟩)
  refine ⟨.skip, undef, _, μ, by simp [execOp, ho, Instr.storeAt, hval, Instr.sureAddr, hrun], .inr ⟨rfl, rfl⟩, S.newU fun o ho => .inl ho, ?_, by simp [refsV]⟩
  simp [RepV]

/-! ### rows: their cells written -/
theorem OwnRow.setRow {s n : Nat} {v : Value} {xs : List Value} (h : OwnRow w s v n xs) {b m c : Nat} (hv : v = .slice (some ⟨b, 0, none⟩) m c) (k : Nat) (ys : List Value) (hk : k + ys.length ≤ n * s) :
    ∃ cur e, w.heap[b]? = some (.cells cur e (0, 0)) ∧ k + ys.length ≤ cur.size ∧
      OwnRow (w.setRow b (cur.toList.take k ++ ys ++ cur.toList.drop (k + ys.length)).toArray) s v n (xs.take k ++ ys ++ xs.drop (k + ys.length)) := by
  obtain ⟨hl, h | ⟨g, cap, cur, e, h1, h2, h3, h4, h5, h6⟩⟩ := h
  · rw [h.1] at hv; cases hv
  · rw [h1] at hv
    cases hv
    have hns : n * s ≤ cur.size := by rw [h5]; exact Nat.mul_le_mul_right s h3
    refine ⟨cur, e, h2, by omega, ?_, .inr ⟨b, c, _, e, h1, setRow_heap w b cur _ e _ h2, h3, h4, ?_, ?_⟩⟩
    · simp; omega
    · simp; omega
    · rw [← h6]
      simp only [List.take_append, List.take_take, List.length_append, List.length_take, List.drop_take, Array.length_toList, List.toList_toArray]
      have e1 : min (n * s) k = k := by omega
      have e2 : min k cur.size = k := by omega
      rw [e1, e2]
      have e3 : n * s - k - ys.length = n * s - (k + ys.length) := by omega
      have e4 : ys.take (n * s - k) = ys := List.take_of_length_le (by omega)
      have e5 : min k (n * s) = k := by omega
      rw [e4, Nat.sub_add_eq, e5]
end
end Go.Proofs.Am
