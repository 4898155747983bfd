/- The evaluator: what a function's code computes, told over plain lists in place of memory. Nothing here is trusted: SvC.lean proves it sound against the model. -/
import Derived.Calls
import Derived.Scope
import Derived.KernelRfl
namespace Go.Sv
open Go

/-- The types of what is told as a plain Lean value. -/
inductive Ty where
  | bool
  | int (k : IntKind)
  | str
  | fn
  | slice (e : TypeId) (t : Ty)
  | pair (a b : Ty)
  deriving DecidableEq

abbrev Ty.den : Ty → Type
  | .bool => Bool
  | .int _ => Int
  | .str => ByteArray
  | .fn => Nat
  | .slice _ t => List t.den
  | .pair a b => a.den × b.den

def Ty.dflt : (t : Ty) → t.den
  | .bool => false
  | .int _ => (0 : Int)
  | .str => ByteArray.empty
  | .fn => (0 : Nat)
  | .slice _ _ => []
  | .pair a b => (a.dflt, b.dflt)

/-- How many cells. -/
def Ty.sz : Ty → Nat
  | .pair a b => a.sz + b.sz
  | _ => 1

def Ty.isPair : Ty → Bool
  | .pair _ _ => true
  | _ => false

def Ty.flat : Ty → Bool
  | .slice _ _ => false
  | .pair a b => a.flat && b.flat
  | _ => true

/-- What is known of a slice's room behind its end: nothing; none; its block is the frame's own, and nobody else reads it. -/
inductive Tag where
  | no
  | nil
  | exact
  | own (n : Nat)

def Tag.names : Tag → List Nat
  | .own n => [n]
  | _ => []

structure Cap where
  ptr : Bool
  t : Ty
  x : t.den

structure FnV where
  f : Nat
  caps : List Cap

inductive PC where
  | bool (b : Bool)
  | int (k : IntKind) (n : Int)
  | str (s : ByteArray)
  | nilS
  | slice (e : TypeId) (t : Ty) (xs : List t.den) (g : Tag)
  | box (d off : Nat)
  | elem (t : Ty) (x : t.den)
  | elemT (u : Ty) (g : Nat) (i : Int) (off : Nat)
  | clo (f : Nat) (caps : List Cap)
  | fnv (v : FnV)
  | glob (g : Nat)
  | dead

inductive SV where
  | one (c : PC)
  | agg (cs : List PC)

def SV.cells : SV → List PC
  | .one c => [c]
  | .agg cs => cs

inductive PV where
  | undef
  /-- what a step that was not wanted leaves -/
  | void
  | sv (s : SV)
  | tup (l : List SV)

def Ty.toPC : (t : Ty) → t.den → List PC
  | .bool, b => [.bool b]
  | .int k, n => [.int k n]
  | .str, s => [.str s]
  | .fn, f => [.fnv ⟨f, []⟩]
  | .slice e t, xs => [.slice e t xs .no]
  | .pair a b, x => a.toPC x.1 ++ b.toPC x.2

def boolOf : List PC → Option Bool
  | [.bool b] => some b
  | _ => none
def intOf (k : IntKind) : List PC → Option Int
  | [.int k' n] => if k' = k then some n else none
  | _ => none
def strOf : List PC → Option ByteArray
  | [.str s] => some s
  | _ => none
def fnOf : List PC → Option Nat
  | [.clo f []] => some f
  | _ => none
def rowOf (e : TypeId) (t : Ty) : List PC → Option (List t.den)
  | [.nilS] => some []
  | [.slice e' t' xs _] => if h : e' = e ∧ t' = t then some (h.2 ▸ xs) else none
  | _ => none

def Ty.ofPC : (t : Ty) → List PC → Option t.den
  | .bool, cs => boolOf cs
  | .int k, cs => intOf k cs
  | .str, cs => strOf cs
  | .fn, cs => fnOf cs
  | .slice e t, cs => rowOf e t cs
  | .pair a b, cs =>
    match a.ofPC (cs.take a.sz), b.ofPC (cs.drop a.sz) with
    | some x, some y => some (x, y)
    | _, _ => none

/-- A field's place in a pair of pairs: of n fields the i-th. -/
def Ty.proj : (n i : Nat) → (t : Ty) → t.den → Option (Σ u : Ty, u.den)
  | 1, 0, t, x => some ⟨t, x⟩
  | n + 2, i, .pair a b, x => match i with
    | 0 => some ⟨a, x.1⟩
    | i + 1 => Ty.proj (n + 1) i b x.2
  | _, _, _, _ => none

/-- A field's offset and type in a pair of pairs. -/
def Ty.offs : (n i : Nat) → Ty → Option (Nat × Ty)
  | 1, 0, t => some (0, t)
  | n + 2, i, .pair a b => match i with
    | 0 => some (0, a)
    | i + 1 => match Ty.offs (n + 1) i b with
      | some (o, u) => some (a.sz + o, u)
      | none => none
  | _, _, _ => none

/-! ### the table of types -/
inductive D where
  | bool | int (k : IntKind) | str | slice (e : TypeId) | struct (fs : List (Nat × TypeId)) | array (n : Nat) (e : TypeId) | other

structure TI where
  d : D
  size : Nat
  bytes : Nat
  ty : Option Ty
  /-- two values of it are equal just where all cells are (plain cells alone) -/
  eq : Bool := false

def TI.agg (i : TI) : Bool := match i.d with | .struct _ | .array _ _ => true | _ => false

/-! ### signatures -/
inductive Kd where
  | v (t : Ty) (own : List Nat)
  | n (e : TypeId) (t : Ty)
  | p (t : Ty)
  | b (t : Ty) (tid : TypeId) (own : List Nat)
  | f

abbrev Kd.den : Kd → Type
  | .v t _ => t.den
  | .n _ _ => Unit
  | .p t => t.den
  | .b t _ _ => t.den
  | .f => FnV

abbrev Tup : List Kd → Type
  | [] => Unit
  | [k] => k.den
  | k :: k' :: ks => k.den × Tup (k' :: ks)

structure Sig where
  args : List Kd
  res : List Kd
  io : Bool := false

abbrev Shape := List (Nat × Kd)
abbrev Shape.ks (s : Shape) : List Kd := s.map (·.2)

structure Env where
  fn : Nat → Option Func
  sig : Nat → Sig
  ti : Nat → Option TI
  shape : Nat → Nat → Option (Shape × Shape)
  glob : Nat → Option (TypeId × Ty × Nat)
  globV : (g : Nat) → (t : Ty) → List t.den
  foreign : (f : Nat) → Option (Tup (sig f).args → Option (Tup (sig f).res))

/-! ### states -/
structure St where
  s : List (Nat × PV)
  b : List (Nat × (TypeId × List PC))

def getS : List (Nat × PV) → Nat → PV
  | [], _ => .undef
  | (j, v) :: r, i => bif Nat.beq j i then v else getS r i

def getB : List (Nat × (TypeId × List PC)) → Nat → Option (TypeId × List PC)
  | [], _ => none
  | (j, v) :: r, i => bif Nat.beq j i then some v else getB r i

def delB : List (Nat × (TypeId × List PC)) → Nat → List (Nat × (TypeId × List PC))
  | [], _ => []
  | (j, v) :: r, i => bif Nat.beq j i then delB r i else (j, v) :: delB r i

def St.get (σ : St) (i : Nat) : PV := getS σ.s i
def St.put (σ : St) (d : Option Nat) (v : PV) : St := match d with | some d => { σ with s := (d, v) :: σ.s } | none => σ

def PC.mapTag (h : Nat → Option Bool) : PC → PC
  | .slice e t xs (.own n) => match h n with
    | some true => .slice e t xs .no
    | some false => .dead
    | none => .slice e t xs (.own n)
  | .elemT u g i o => match h g with
    | some _ => .dead
    | none => .elemT u g i o
  | c => c

def SV.map (f : PC → PC) : SV → SV
  | .one c => .one (f c)
  | .agg cs => .agg (cs.map f)
def PV.map (f : PC → PC) : PV → PV
  | .undef => .undef
  | .void => .void
  | .sv s => .sv (s.map f)
  | .tup l => .tup (l.map (·.map f))

def St.map (f : PC → PC) (σ : St) : St :=
  { s := σ.s.map fun p => (p.1, p.2.map f), b := σ.b.map fun p => (p.1, (p.2.1, p.2.2.map f)) }

def mem (l : List Nat) (n : Nat) : Bool := l.any (Nat.beq n)

/-- What was the frame's own becomes anybody's: it is written no more. -/
def St.release (l : List Nat) (σ : St) : St := match l with
  | [] => σ
  | l => σ.map (PC.mapTag fun n => bif mem l n then some true else none)
/-- What was the frame's own has gone. -/
def St.kill (l : List Nat) (σ : St) : St := match l with
  | [] => σ
  | l => σ.map (PC.mapTag fun n => bif mem l n then some false else none)

def PC.tag : PC → List Nat
  | .slice _ _ _ (.own n) => [n]
  | _ => []
def tagsOf (cs : List PC) : List Nat := cs.flatMap PC.tag

def PC.unbox (d : Nat) : PC → PC
  | .box d' o => bif Nat.beq d' d then .dead else .box d' o
  | c => c
/-- A box of this name is made: pointers to an elder one of the name are forgotten. -/
def St.newBox (σ : St) (d : Nat) (tid : TypeId) (cs : List PC) : St :=
  let σ' := σ.map (PC.unbox d)
  { s := (d, .sv (.one (.box d 0))) :: σ'.s, b := (d, (tid, cs.map (PC.unbox d))) :: delB σ'.b d }

/-- A box is forgotten. -/
def St.del (σ : St) (d : Nat) : St := { s := σ.s, b := delB σ.b d }

def PC.frozen (d : Nat) (t : Ty) (x : t.den) : PC → PC
  | .box d' o => bif Nat.beq d' d then (bif Nat.beq o 0 then .elem t x else .dead) else .box d' o
  | c => c

section
variable (E : Env)

def zeroPC : Ty → List PC
  | .bool => [.bool false]
  | .int k => [.int k 0]
  | .str => [.str ByteArray.empty]
  | .fn => [.dead]
  | .slice e t => [.slice e t [] .nil]
  | .pair a b => zeroPC a ++ zeroPC b

def Env.ty (t : TypeId) : Option Ty := (E.ti t).bind (·.ty)
def Env.mkSV (t : TypeId) (cs : List PC) : Option SV :=
  match E.ti t with
  | none => none
  | some i => if i.agg then some (.agg cs) else match cs with | [c] => some (.one c) | _ => none

/-- An operand's value. -/
def St.ev (σ : St) : Operand → PV
  | .tmp t => σ.get t
  | .const (.bool b) => .sv (.one (.bool b))
  | .const (.int k n) => .sv (.one (.int k n))
  | .const (.string s) => .sv (.one (.str s))
  | .const (.slice none 0 0) => .sv (.one .nilS)
  | .const _ => .undef
  | .func f => .sv (.one (.clo f []))
  | .global g => .sv (.one (.glob g))

/-- nil, told at its type. -/
def Env.typed (t : TypeId) : PV → PV
  | .sv (.one .nilS) => match E.ti t with
    | some i => match i.d, i.ty with
      | .slice _, some (.slice e u) => .sv (.one (.slice e u [] .nil))
      | _, _ => .sv (.one .nilS)
    | none => .sv (.one .nilS)
  | v => v

def tagOf (slot j k : Nat) : Nat := slot * 64 + j * 8 + k

def leafs (own : List Nat) (slot j : Nat) (k : Nat) : List PC → List PC
  | [] => []
  | .slice e t xs g :: r => .slice e t xs (bif mem own k then .own (tagOf slot j k) else g) :: leafs own slot j (k + 1) r
  | c :: r => c :: leafs own slot j (k + 1) r

/-- A told value as what stands at a slot. -/
def Kd.unpack (slot j : Nat) : (k : Kd) → k.den → SV
  | .v t own, x => bif t.isPair then .agg (leafs own slot j 0 (t.toPC x))
    else match leafs own slot j 0 (t.toPC x) with | [c] => .one c | cs => .agg cs
  | .n e t, _ => .one (.slice e t [] .nil)
  | .p t, x => .one (.elem t x)
  | .b _ _ _, _ => .one (.box slot 0)
  | .f, q => .one (.fnv q)

def unpackAll (slot j : Nat) : (ks : List Kd) → Tup ks → List SV
  | [], _ => []
  | [k], x => [k.unpack slot j x]
  | k :: k' :: ks, x => k.unpack slot j x.1 :: unpackAll slot (j + 1) (k' :: ks) x.2

def Kd.own : Kd → List Nat
  | .v _ own => own
  | .b _ _ own => own
  | _ => []
def Kd.isFlat : Kd → Bool
  | .v t _ => t.flat
  | _ => false

/-- What goes over when told values are handed on: the names of rows that stay somebody's own (of whom, to whom), the names of rows that anybody may read from then on, the boxes that go over whole, the boxes that are pointed into. -/
structure Hand where
  ren : List (Option Nat × Nat) := []
  pl : List Nat := []
  rb : List (Nat × Nat) := []
  pm : List Nat := []

def leafHand (own : List Nat) (slot j : Nat) : Nat → List PC → Hand → Option Hand
  | _, [], h => some h
  | k, .slice _ _ _ g :: r, h =>
    bif mem own k then (match g with
      | .own n => leafHand own slot j (k + 1) r { h with ren := (some n, tagOf slot j k) :: h.ren }
      | .nil => leafHand own slot j (k + 1) r { h with ren := (none, tagOf slot j k) :: h.ren }
      | .exact => none
      | .no => none)
    else leafHand own slot j (k + 1) r { h with pl := g.names ++ h.pl }
  | k, .nilS :: r, h => leafHand own slot j (k + 1) r (bif mem own k then { h with ren := (none, tagOf slot j k) :: h.ren } else h)
  | k, _ :: r, h => leafHand own slot j (k + 1) r h

def Kd.hand (σ : St) (slot j : Nat) : Kd → SV → Hand → Option Hand
  | .v _ own, s, h => leafHand own slot j 0 s.cells h
  | .b _ _ own, .one (.box d 0), h => (match getB σ.b d with
    | some (_, cs) => leafHand own slot 0 0 cs { h with rb := (d, slot) :: h.rb }
    | none => none)
  | .b _ _ _, _, _ => none
  | .p t, .one (.box d o), h => (match getB σ.b d with
    | some (_, cs) => some { h with pl := tagsOf ((cs.drop o).take t.sz) ++ h.pl, pm := d :: h.pm }
    | none => none)
  | _, _, h => some h

def handAll (σ : St) : List (Nat × Nat × Kd) → List SV → Hand → Option Hand
  | (i, j, k) :: ks, s :: ss, h => match k.hand σ i j s h with
    | some h' => handAll σ ks ss h'
    | none => none
  | _, _, h => some h

def nodup : List Nat → Bool
  | [] => true
  | x :: r => !(mem r x) && nodup r

def Hand.srcs (h : Hand) : List Nat := h.ren.filterMap (·.1)
def Hand.ok (h : Hand) : Bool :=
  nodup (h.ren.map (·.2)) && (nodup h.srcs && (nodup (h.rb.map (·.1)) && (nodup (h.rb.map (·.2)) && (h.pl.all (fun x => !(mem h.srcs x)) && h.pm.all (fun x => !(mem (h.rb.map (·.1)) x))))))

def handed (σ : St) (ks : List (Nat × Nat × Kd)) (l : List SV) : Option Hand :=
  match handAll σ ks l {} with
  | some h => bif h.ok then some h else none
  | none => none

def argSlots : Nat → List Kd → List (Nat × Nat × Kd)
  | _, [] => []
  | i, k :: ks => (i, 0, k) :: argSlots (i + 1) ks
def resSlots (d : Nat) : Nat → List Kd → List (Nat × Nat × Kd)
  | _, [] => []
  | j, k :: ks => (d, j, k) :: resSlots d (j + 1) ks
def shapeSlots : Shape → List (Nat × Nat × Kd)
  | [] => []
  | (i, k) :: r => (i, 0, k) :: shapeSlots r

def Kd.pack (σ : St) : (k : Kd) → SV → Option k.den
  | .v t _, .one c => bif t.isPair then none else t.ofPC [c]
  | .v t _, .agg cs => bif t.isPair then t.ofPC cs else none
  | .n _ _, .one .nilS => some ()
  | .n e t, .one (.slice e' t' _ .nil) => if e' = e ∧ t' = t then some () else none
  | .p t, .one (.elem t' x) => if h : t' = t then some (h ▸ x) else none
  | .p t, .one (.box d o) => match getB σ.b d with
    | some (_, cs) => t.ofPC ((cs.drop o).take t.sz)
    | none => none
  | .b t tid _, .one (.box d 0) => match getB σ.b d with
    | some (tid', cs) => if tid' = tid then t.ofPC cs else none
    | none => none
  | .f, .one (.fnv q) => some q
  | .f, .one (.clo g caps) => some ⟨g, caps⟩
  | _, _ => none

def packAll (σ : St) : (ks : List Kd) → List SV → Option (Tup ks)
  | [], [] => some ()
  | [k], [s] => k.pack σ s
  | k :: k' :: ks, s :: ss =>
    match k.pack σ s, packAll σ (k' :: ks) ss with
    | some x, some y => some (x, y)
    | _, _ => none
  | _, _ => none

def shapeSVs (σ : St) : Shape → Option (List SV)
  | [] => some []
  | (i, _) :: r => match σ.get i, shapeSVs σ r with
    | .sv s, some l => some (s :: l)
    | _, _ => none

def packShape (σ : St) (hs : Shape) : Option (Tup hs.ks) :=
  match shapeSVs σ hs with
  | some l => match handed σ (shapeSlots hs) l with
    | some _ => packAll σ hs.ks l
    | none => none
  | none => none

def boxesOf : (hs : Shape) → Tup hs.ks → List (Nat × (TypeId × List PC))
  | [], _ => []
  | [(i, .b t tid own)], x => [(i, (tid, leafs own i 0 0 (t.toPC x)))]
  | [_], _ => []
  | (i, .b t tid own) :: h' :: hs, x => (i, (tid, leafs own i 0 0 (t.toPC x.1))) :: boxesOf (h' :: hs) x.2
  | _ :: h' :: hs, x => boxesOf (h' :: hs) x.2

def slotsOf : (hs : Shape) → Tup hs.ks → List (Nat × PV)
  | [], _ => []
  | [(i, k)], x => [(i, .sv (k.unpack i 0 x))]
  | (i, k) :: h' :: hs, x => (i, .sv (k.unpack i 0 x.1)) :: slotsOf (h' :: hs) x.2

def stOf (hs : Shape) (x : Tup hs.ks) : St := { s := slotsOf hs x, b := boxesOf hs x }

/-! ### operations -/
def idxOk (n : Int) (len : Nat) : Bool := decide (0 ≤ n) && decide (n < (len : Int))
def cutOk (lo hi : Int) (len : Nat) : Bool := decide (0 ≤ lo) && (decide (lo ≤ hi) && decide (hi ≤ (len : Int)))
def byteAt (s : ByteArray) (n : Int) : Int := ((s.data.getD n.toNat 0).toNat : Int)
def rd (t : Ty) (xs : List t.den) (n : Int) : t.den := xs.getD n.toNat t.dflt
def cut {α : Type} (xs : List α) (lo hi : Int) : List α := (xs.take hi.toNat).drop lo.toNat

/-- Two values of plain cells, cell by cell. -/
def eqD : (u : Ty) → u.den → u.den → Bool
  | .bool, x, y => x == y
  | .int _, x, y => x == y
  | .str, x, y => x.toList == y.toList
  | .pair a b, x, y => eqD a x.1 y.1 && eqD b x.2 y.2
  | .fn, _, _ => false
  | .slice _ _, _, _ => false

def intOp (op : BinOp) (k : IntKind) (a b : Int) : Option PC :=
  match op with
  | .add => some (.int k (k.wrap (a + b)))
  | .sub => some (.int k (k.wrap (a - b)))
  | .mul => some (.int k (k.wrap (a * b)))
  | .eql => some (.bool (a == b))
  | .neq => some (.bool (a != b))
  | .lss => some (.bool (decide (a < b)))
  | .leq => some (.bool (decide (a ≤ b)))
  | .gtr => some (.bool (decide (a > b)))
  | .geq => some (.bool (decide (a ≥ b)))
  | _ => none

def strOp (op : BinOp) (a b : ByteArray) : Option PC :=
  match op with
  | .eql => some (.bool (a.toList == b.toList))
  | .neq => some (.bool (!(a.toList == b.toList)))
  | .lss => some (.bool (Op.bytesLess a.toList b.toList))
  | .leq => some (.bool (Op.bytesLess a.toList b.toList || a.toList == b.toList))
  | .gtr => some (.bool (!(Op.bytesLess a.toList b.toList || a.toList == b.toList)))
  | .geq => some (.bool (!Op.bytesLess a.toList b.toList))
  | _ => none

def binK {R : Type} (op : BinOp) (t : TypeId) (a b : SV) (K : PC → Option R) : Option R :=
  match a, b with
  | .one (.int k x), .one (.int k' y) =>
    if k = k' then (match op with
      | .quo => bif y == 0 then none else K (.int k (k.wrap (x.tdiv y)))
      | .rem => bif y == 0 then none else K (.int k (x.tmod y))
      | _ => match intOp op k x y with | some c => K c | none => none) else none
  | .one (.str x), .one (.str y) =>
    (match op with
      | .add => bif decide (x.size + y.size ≤ 9223372036854775807) then K (.str (x ++ y)) else none
      | _ => match strOp op x y with | some c => K c | none => none)
  | .one (.bool x), .one (.bool y) => (match E.ti t with
      | some i => (match i.d, op with | .bool, .eql => K (.bool (x == y)) | .bool, .neq => K (.bool (!(x == y))) | _, _ => none)
      | none => none)
  | .one (.slice _ _ xs _), .one .nilS => (match E.ti t with
      | some i => (match i.d, op, xs with | .slice _, .eql, _ :: _ => K (.bool false) | .slice _, .neq, _ :: _ => K (.bool true) | _, _, _ => none)
      | none => none)
  | .agg x, .agg y =>
    (match E.ti t with
      | some i => if i.eq = true then (match i.ty with
        | some u => (match u.ofPC x, u.ofPC y, op with | some a, some b, .eql => K (.bool (eqD u a b)) | some a, some b, .neq => K (.bool (!(eqD u a b))) | _, _, _ => none)
        | none => none) else none
      | none => none)
  | _, _ => none

def setCells (cs new : List PC) (off : Nat) : List PC := cs.take off ++ new ++ cs.drop (off + new.length)

def fillParts (place : Nat → Option (Nat × TypeId)) (σ : St) : List (Nat × Operand) → List PC → Option (List PC)
  | [], cs => some cs
  | (i, x) :: r, cs =>
    match place i with
    | none => none
    | some (off, ft) =>
      match E.ti ft, E.typed ft (σ.ev x) with
      | some i', .sv s => if s.cells.length = i'.size ∧ off + i'.size ≤ cs.length then fillParts place σ r (setCells cs s.cells off) else none
      | _, _ => none

def zeroable : Ty → Bool
  | .fn => false
  | .pair a b => zeroable a && zeroable b
  | _ => true

def elemsOf (e : TypeId) (u : Ty) (σ : St) : (parts : List (Nat × Operand)) → (n i : Nat) → Option (List u.den)
  | [], n, _ => if n = 0 ∨ zeroable u = true then some (List.replicate n u.dflt) else none
  | (j, x) :: r, n + 1, i =>
    if j = i then (match E.typed e (σ.ev x), elemsOf e u σ r n (i + 1) with
      | .sv s, some l => (match u.ofPC s.cells with | some x => some (x :: l) | none => none)
      | _, _ => none) else none
  | _ :: _, 0, _ => none

def partTags (σ : St) : List (Nat × Operand) → List Nat
  | [] => []
  | (_, x) :: r => (match σ.ev x with | .sv s => tagsOf s.cells | _ => []) ++ partTags σ r

/-- What a tag's holder holds. -/
def findPC (g : Nat) : List PC → Option (Σ t : Ty, TypeId × List t.den)
  | [] => none
  | .slice e t xs (.own n) :: r => bif Nat.beq n g then some ⟨t, e, xs⟩ else findPC g r
  | _ :: r => findPC g r
def findTag (g : Nat) : List (Nat × PV) → Option (Σ t : Ty, TypeId × List t.den)
  | [] => none
  | (_, .sv s) :: r => match findPC g s.cells with | some x => some x | none => findTag g r
  | _ :: r => findTag g r

def PC.setOwn (g : Nat) (u : Ty) (ys : List u.den) : PC → PC
  | .slice e t xs (.own n) => bif Nat.beq n g then (if h : u = t then .slice e t (h ▸ ys) (.own n) else .dead) else .slice e t xs (.own n)
  | c => c

def chunk (u : Ty) (sz : Nat) : (n : Nat) → List PC → Option (List u.den)
  | 0, _ => some []
  | n + 1, cs => match u.ofPC (cs.take sz), chunk u sz n (cs.drop sz) with
    | some x, some l => some (x :: l)
    | _, _ => none

def loadK {R : Type} (σ : St) (t : TypeId) (p : PV) (K : SV → Option R) : Option R :=
  match E.ti t with
  | none => none
  | some i =>
    match p with
    | .sv (.one (.box d off)) => (match getB σ.b d with
      | some (_, cs) => if off + i.size ≤ cs.length then (match E.mkSV t ((cs.drop off).take i.size) with | some s => K s | none => none) else none
      | none => none)
    | .sv (.one (.elem u x)) => (match i.ty with
      | some u' => if u' = u then (match E.mkSV t (u.toPC x) with | some s => K s | none => none) else none
      | none => none)
    | .sv (.one (.elemT u' g n off)) => (match findTag g σ.s with
      | some ⟨u, _, xs⟩ => if u' = u ∧ off + i.size ≤ u.sz then (match E.mkSV t (((u.toPC (rd u xs n)).drop off).take i.size) with | some s => K s | none => none) else none
      | none => none)
    | _ => none

def storeK {R : Type} (σ : St) (t : TypeId) (p : PV) (x : SV) (K : St → Option R) : Option R :=
  match E.ti t with
  | none => none
  | some i =>
    if x.cells.length = i.size then
      match p with
      | .sv (.one (.box d off)) => (match getB σ.b d with
        | some (tid, cs) => if off + i.size ≤ cs.length then K { σ with b := (d, (tid, setCells cs x.cells off)) :: delB σ.b d } else none
        | none => none)
      | .sv (.one (.elemT u' g n off)) => (match findTag g σ.s with
        | some ⟨u, _, xs⟩ => if u' = u ∧ off + i.size ≤ u.sz then
            (match u.ofPC (setCells (u.toPC (rd u xs n)) x.cells off) with
              | some y => bif mem (tagsOf x.cells) g then none else K ((σ.release (tagsOf x.cells)).map (PC.setOwn g u (xs.set n.toNat y)))
              | none => none) else none
        | none => none)
      | _ => none
    else none

def optInt (σ : St) : Option Operand → Option (Option Int)
  | none => some none
  | some x => match σ.ev x with | .sv (.one (.int _ n)) => some (some n) | _ => none

/-- A cut's row, by what is given of its bounds. -/
def sliceK {R : Type} (i : TI) (σ : St) (d : Option Nat) (x : PV) (lo hi mx : Option Operand) (K : St → Option R) : Option R :=
  match optInt σ lo, optInt σ hi, optInt σ mx with
  | some lo, some hi, some mx =>
    (match x with
    | .sv (.one (.str s)) =>
      let l := lo.getD 0; let h := hi.getD (s.size : Int)
      (match i.d, mx with | .str, none => bif cutOk l h s.size then K (σ.put d (.sv (.one (.str (s.extract l.toNat h.toNat))))) else none | _, _ => none)
    | .sv (.one (.slice e t xs g)) =>
      let l := lo.getD 0; let h := hi.getD (xs.length : Int)
      let σ' := σ.release g.names
      if i.ty = some (.slice e t) then (match mx with
      | none => bif cutOk l h xs.length then K (σ'.put d (.sv (.one (.slice e t (cut xs l h) (match g, hi with | .nil, _ => .nil | .exact, none => .exact | _, _ => .no))))) else none
      | some m => (match hi with
        | some _ => bif cutOk l h xs.length && decide (m = h) then K (σ'.put d (.sv (.one (.slice e t (cut xs l h) .exact)))) else none
        | none => none)) else none
    | .sv (.one (.glob g)) => (match lo, hi, mx, E.glob g, i.d with
      | none, none, none, some (e, u, n), .array n' e' => if e' = e ∧ n' = n then K (σ.put d (.sv (.one (.slice e u (E.globV g u) .exact)))) else none
      | _, _, _, _, _ => none)
    | _ => none)
  | _, _, _ => none

/-- How many cells more than were there fit: the model bears no row of more than 2^47 bytes. -/
def roomOk (n bytes : Nat) : Bool := decide (n * bytes ≤ 140737488355328)

def appendK {R : Type} (σ : St) (d : Option Nat) (ty : TypeId) (s x : PV) (K : St → Option R) : Option R :=
  match E.ti ty with
  | none => none
  | some i =>
  match i.d, i.ty, d with
  | .slice e, some (.slice e' u), some d =>
    (match E.ti e with
    | none => none
    | some ie =>
      if e' = e ∧ (0 < ie.size) ∧ ie.size = u.sz then
      match (match s with | .sv (.one .nilS) => some ([], Tag.nil) | .sv (.one (.slice e1 u1 xs g)) => if h : e1 = e ∧ u1 = u then some ((h.2 ▸ xs : List u.den), g) else none | _ => none),
            (match x with | .sv (.one .nilS) => some [] | .sv (.one (.slice e1 u1 ys _)) => if h : e1 = e ∧ u1 = u then some (h.2 ▸ ys : List u.den) else none | _ => none) with
      | some (xs, g), some ys =>
        (match g with
        | .no => none
        | .exact => bif roomOk (xs.length + ys.length) ie.bytes then K (σ.put (some d) (.sv (.one (.slice e u (xs ++ ys) .no)))) else none
        | .nil => bif roomOk (xs.length + ys.length) ie.bytes then K ((σ.kill [tagOf d 0 0]).put (some d) (.sv (.one (.slice e u (xs ++ ys) (.own (tagOf d 0 0)))))) else none
        | .own n => bif roomOk (xs.length + ys.length) ie.bytes then K ((σ.kill [n, tagOf d 0 0]).put (some d) (.sv (.one (.slice e u (xs ++ ys) (.own (tagOf d 0 0)))))) else none)
      | _, _ => none
      else none)
  | _, _, _ => none

/-- append of so many zeros to nil. -/
def appendZK {R : Type} (σ : St) (d : Option Nat) (ty ty' : TypeId) (s x : PV) (K : St → Option R) : Option R :=
  match E.ti ty, E.ti ty', d with
  | some i, some i', some d => (match i.d, i'.d, i.ty with
    | .slice e, .int _, some (.slice e' u) => (match E.ti e, s, x with
      | some ie, .sv (.one (.slice e1 u1 _ .nil)), .sv (.one (.int .i64 n)) =>
        if e' = e ∧ e1 = e ∧ u1 = u ∧ (0 < ie.size) ∧ ie.size = u.sz ∧ zeroable u = true ∧ ie.ty = some u then
          bif decide (0 ≤ n) && roomOk n.toNat ie.bytes then K ((σ.kill [tagOf d 0 0]).put (some d) (.sv (.one (.slice e u (List.replicate n.toNat u.dflt) (.own (tagOf d 0 0)))))) else none
        else none
      | _, _, _ => none)
    | _, _, _ => none)
  | _, _, _ => none

def evSVs (σ : St) : List Operand → Option (List SV)
  | [] => some []
  | x :: r => match σ.ev x, evSVs σ r with
    | .sv s, some l => some (s :: l)
    | _, _ => none

/-- nil among what is handed over, told at its type. -/
def typedSVs : List TypeId → List SV → List SV
  | t :: ts, s :: ss => (match E.typed t (.sv s) with | .sv s' => s' | _ => s) :: typedSVs ts ss
  | _, ss => ss

def resPV (d : Nat) (ks : List Kd) (x : Tup ks) : PV :=
  match unpackAll d 0 ks x with
  | [] => .undef
  | [s] => .sv s
  | l => .tup l

def ownNames (d : Nat) : Nat → List Kd → List Nat
  | _, [] => []
  | j, k :: ks => k.own.map (tagOf d j) ++ ownNames d (j + 1) ks

abbrev Runs (E : Env) := (f : Nat) → Tup (E.sig f).args → Option (Tup (E.sig f).res)

def callK {R : Type} (run : Runs E) (σ : St) (d : Option Nat) (f : Nat) (args : List SV) (K : St → Option R) : Option R :=
  bif (E.sig f).io then none else
  match packAll σ (E.sig f).args args, handed σ (argSlots 0 (E.sig f).args) args with
  | some x, some h =>
    (match h.rb with
    | [] => bif (E.sig f).res.all Kd.isFlat || h.pm.isEmpty then
        (run f x).bind fun r =>
          let rl := bif (E.sig f).res.all Kd.isFlat then [] else h.pl
          K (match d with
            | some d => (((σ.kill h.srcs).release rl).kill (ownNames d 0 (E.sig f).res)).put (some d) (resPV d (E.sig f).res r)
            | none => (σ.kill h.srcs).release rl)
        else none
    | _ :: _ => none)
  | _, _ => none

def capSV (c : Cap) : SV := bif c.ptr then .one (.elem c.t c.x) else Kd.unpack 0 0 (.v c.t []) c.x

def castRes (t : Ty) : (ks : List Kd) → Tup ks → Option t.den
  | [.v t' []], x => if h : t' = t then some (h ▸ x) else none
  | _, _ => none

/-- A call of a function value of which nothing is known here: one flat result of type t. -/
def callDyn (run : Runs E) (v : FnV) (args : List SV) (t : Ty) : Option t.den :=
  bif (E.sig v.f).io then none else
  match packAll ⟨[], []⟩ (E.sig v.f).args (args ++ v.caps.map capSV), handed ⟨[], []⟩ (argSlots 0 (E.sig v.f).args) (args ++ v.caps.map capSV) with
  | some x, some h => bif h.rb.isEmpty && h.srcs.isEmpty then (run v.f x).bind fun r => castRes t (E.sig v.f).res r else none
  | _, _ => none

def capsOf (σ : St) : List Operand → Option (St × List Cap)
  | [] => some (σ, [])
  | x :: r =>
    match σ.ev x with
    | .sv (.one (.box d 0)) => (match getB σ.b d with
      | some (tid, cs) => (match E.ty tid with
        | some t => (match t.ofPC cs with
          | some y =>
            (match capsOf (((σ.release (tagsOf cs)).map (PC.frozen d t y)).del d) r with
            | some (σ', l) => some (σ', ⟨true, t, y⟩ :: l)
            | none => none)
          | none => none)
        | none => none)
      | none => none)
    | .sv (.one (.elem t y)) => (match capsOf σ r with | some (σ', l) => some (σ', ⟨true, t, y⟩ :: l) | none => none)
    | _ => none

def opK {R : Type} (run : Runs E) (σ : St) (o : Oper) (K : St → Option R) : Option R :=
  let put (v : PV) : Option R := K (σ.put o.dst v)
  match o.op with
  | .move x | .assign x => put (E.typed o.type (σ.ev x))
  | .pick c a b => (match σ.ev c with
    | .sv (.one (.bool t)) => bif t then put (E.typed o.type (σ.ev a)) else put (E.typed o.type (σ.ev b))
    | _ => none)
  | .alloc t => (match E.ti t, o.dst with
    | some i, some d => (match i.ty with | some u => bif zeroable u then K (σ.newBox d t (zeroPC u)) else none | none => none)
    | _, _ => none)
  | .box t x => (match E.ti t, o.dst, E.typed t (σ.ev x) with
    | some i, some d, .sv s => if s.cells.length = i.size then K (σ.newBox d t s.cells) else none
    | _, _, _ => none)
  | .build t parts => (match E.ti t with
    | some i => (match i.d, i.ty with
      | .struct fs, some u => (match fillParts E (fun j => fs[j]?) σ parts.toList (zeroPC u) with | some cs => put (.sv (.agg cs)) | none => none)
      | .array n e, some u => (match E.ti e with
        | some ie => (match fillParts E (fun j => if j < n then some (j * ie.size, e) else none) σ parts.toList (zeroPC u) with | some cs => put (.sv (.agg cs)) | none => none)
        | none => none)
      | _, _ => none)
    | none => none)
  | .buildSlice t n parts => (match E.ti t with
    | some i => (match i.d, i.ty with
      | .slice e, some (.slice e' u) => (match E.ti e with
        | some ie => if e' = e ∧ n * ie.size ≤ 16777216 ∧ ie.size = u.sz ∧ ie.ty = some u then
            (match elemsOf E e u σ parts.toList n 0 with
            | some l => (match o.dst with
              | some d => K (((σ.release (partTags σ parts.toList)).kill [tagOf d 0 0]).put (some d) (.sv (.one (.slice e u l (.own (tagOf d 0 0))))))
              | none => none)
            | none => none) else none
        | none => none)
      | _, _ => none)
    | none => none)
  | .load t p => loadK E σ t (σ.ev p) fun s => put (.sv s)
  | .store t p x => (match E.typed t (σ.ev x) with
    | .sv s => storeK E σ t (σ.ev p) s fun σ' => K (σ'.put o.dst .undef)
    | _ => none)
  | .nilCheck x => (match σ.ev x with
    | .sv (.one (.box d off)) => put (.sv (.one (.box d off)))
    | .sv (.one (.elem t x)) => put (.sv (.one (.elem t x)))
    | .sv (.one (.elemT u g i off)) => put (.sv (.one (.elemT u g i off)))
    | _ => none)
  | .binOp op t x y _ => (match E.typed t (σ.ev x), σ.ev y with
    | .sv a, .sv b => binK E op t a b fun c => put (.sv (.one c))
    | _, _ => none)
  | .unOp op _ x => (match op, σ.ev x with
    | .not, .sv (.one (.bool b)) => put (.sv (.one (.bool (!b))))
    | .neg, .sv (.one (.int k n)) => put (.sv (.one (.int k (k.wrap (0 - n)))))
    | _, _ => none)
  | .convert src dst x => (match E.ti src, E.ti dst, σ.ev x with
    | some i, some j, .sv (.one (.int _ n)) => (match i.d, j.d with | .int _, .int k => put (.sv (.one (.int k (k.wrap n)))) | _, _ => none)
    | _, _, _ => none)
  | .makeFunc (.func f) first captured => (match first.toList, capsOf E σ captured.toList with
    | [], some (σ', l) => K (σ'.put o.dst (.sv (.one (.clo f l))))
    | _, _ => none)
  | .slice t x lo hi mx => (match E.ti t with
    | some i => bif o.pos == "slices.go:428" then (match σ.ev x, lo, mx, optInt σ hi, o.dst with
      | .sv (.one (.slice e u xs (.own g))), none, none, some (some h), some d =>
        if i.ty = some (.slice e u) then bif cutOk 0 h xs.length then K ((σ.kill [g, tagOf d 0 0]).put (some d) (.sv (.one (.slice e u (cut xs 0 h) (.own (tagOf d 0 0)))))) else none else none
      | _, _, _, _, _ => sliceK E i σ o.dst (σ.ev x) lo hi mx K)
      else sliceK E i σ o.dst (σ.ev x) lo hi mx K
    | none => none)
  | .fieldAddr t p f => (match E.ti t with
    | some i => (match i.d with
      | .struct fs => (match fs[f]?, σ.ev p with
        | some (off, _), .sv (.one (.box d o)) => put (.sv (.one (.box d (o + off))))
        | some (off, _), .sv (.one (.elemT u g n o)) => put (.sv (.one (.elemT u g n (o + off))))
        | some _, .sv (.one (.elem u x)) => (match i.ty with
          | some u' => if u' = u then (match Ty.proj fs.length f u x with | some ⟨t', y⟩ => put (.sv (.one (.elem t' y))) | none => none) else none
          | none => none)
        | _, _ => none)
      | _ => none)
    | none => none)
  | .indexAddr t x ix => (match E.ti t with
    | some i => (match i.d, σ.ev x, σ.ev ix with
      | .slice e, .sv (.one (.slice e' u xs g)), .sv (.one (.int _ n)) =>
        if e' = e ∧ i.ty = some (.slice e u) then bif idxOk n xs.length then (match g with
          | .own h => put (.sv (.one (.elemT u h n 0)))
          | _ => put (.sv (.one (.elem u (rd u xs n))))) else none else none
      | _, _, _ => none)
    | none => none)
  | .index t x ix => (match E.ti t with
    | some i => (match i.d, σ.ev x, σ.ev ix with
      | .str, .sv (.one (.str s)), .sv (.one (.int _ n)) => bif idxOk n s.size then put (.sv (.one (.int .u8 (byteAt s n)))) else none
      | .array m e, .sv (.agg cs), .sv (.one (.int _ n)) => (match E.ti e with
        | some ie => (match ie.ty with
          | some u => if ie.size = u.sz ∧ tagsOf cs = [] then (match chunk u u.sz m cs with
            | some l => bif idxOk n l.length then (match E.mkSV e (u.toPC (rd u l n)) with | some s => put (.sv s) | none => none) else none
            | none => none) else none
          | none => none)
        | none => none)
      | _, _, _ => none)
    | none => none)
  | .extract t ix => (match σ.ev t with
    | .tup l => (match l[ix]? with | some s => put (.sv s) | none => none)
    | _ => none)
  | .call c => (match c.callee with
    | .builtin .len => (match c.args.toList, c.argTypes.toList with
      | [x], [ty] => (match E.ti ty with
        | some i => (match i.d, σ.ev x with
          | .slice _, .sv (.one (.slice _ _ xs _)) => put (.sv (.one (.int .i64 (xs.length : Int))))
          | .str, .sv (.one (.str s)) => put (.sv (.one (.int .i64 (s.size : Int))))
          | _, _ => none)
        | none => none)
      | _, _ => none)
    | .builtin .cap => (match c.args.toList, c.argTypes.toList with
      | [x], [ty] => (match E.ti ty with
        | some i => (match i.d, σ.ev x with
          | .slice _, .sv (.one (.slice _ _ _ .nil)) => put (.sv (.one (.int .i64 0)))
          | _, _ => none)
        | none => none)
      | _, _ => none)
    | .builtin .append => (match c.args.toList, c.argTypes.toList with
      | [s, x], [ty, ty'] => if ty = ty' then appendK E σ o.dst ty (σ.ev s) (σ.ev x) K else appendZK E σ o.dst ty ty' (σ.ev s) (σ.ev x) K
      | _, _ => none)
    | .builtin .max => (match c.args.toList with
      | [x, y] => (match σ.ev x, σ.ev y with
        | .sv (.one (.int k a)), .sv (.one (.int _ b)) => put (.sv (.one (.int k (if b > a then b else a))))
        | _, _ => none)
      | _ => none)
    | .builtin .min => (match c.args.toList with
      | [x, y] => (match σ.ev x, σ.ev y with
        | .sv (.one (.int k a)), .sv (.one (.int _ b)) => put (.sv (.one (.int k (if b < a then b else a))))
        | _, _ => none)
      | _ => none)
    | .value f => (match σ.ev f, evSVs σ c.args.toList with
      | .sv (.one (.clo f caps)), some args => callK E run σ o.dst f (typedSVs E c.argTypes.toList args ++ caps.map capSV) K
      | .sv (.one (.fnv v)), some args => (match E.ti o.type with
        | some i => (match i.ty with
          | some t => if t.flat = true ∧ i.agg = false then (callDyn E run v (typedSVs E c.argTypes.toList args) t).bind fun r => put (.sv (Kd.unpack 0 0 (.v t []) r)) else none
          | none => none)
        | none => none)
      | _, _ => none)
    | _ => none)
  | _ => none

/-! ### code -/
inductive Ex where
  | normal
  | exit (id : Nat)
  | goto (l : Nat)
  | ret
  deriving DecidableEq

def guardK {R : Type} (σ : St) (slot : Nat) (want : Bool) (go skip : St → Option R) : Option R :=
  match σ.get slot with
  | .sv (.one (.bool b)) =>
    bif b then (bif want then go (σ.put (some slot) (.sv (.one (.bool true)))) else skip (σ.put (some slot) (.sv (.one (.bool true)))))
    else (bif want then skip (σ.put (some slot) (.sv (.one (.bool false)))) else go (σ.put (some slot) (.sv (.one (.bool false)))))
  | .void => skip σ
  | _ => none

def opGK {R : Type} (run : Runs E) (all : List Oper) (σ : St) (o : Oper) (K : St → Option R) : Option R :=
  match o.guard with
  | none => opK E run σ o K
  | some (j, want) => match (all[j]?).bind (·.dst) with
    | none => none
    | some slot => guardK σ slot want (fun σ' => opK E run σ' o K) (fun σ' => K (σ'.put o.dst .void))

def opsK {R : Type} (run : Runs E) (all : List Oper) : List Oper → St → (St → Option R) → Option R
  | [], σ, K => K σ
  | o :: r, σ, K => opGK E run all σ o fun σ' => opsK run all r σ' K

def idxEx (e : Ex) : List Ex → Nat → Option Nat
  | [], _ => none
  | x :: r, i => if x = e then some i else idxEx e r (i + 1)

def loopT {hs os : Shape} (ex : List Ex) (body : St → (Ex → St → Option (Nat × Tup os.ks)) → Option (Nat × Tup os.ks)) :
    Nat → Tup hs.ks → Option (Nat × Tup os.ks)
  | 0, _ => none
  | n + 1, x => body (stOf hs x) fun e σ => match e with
    | .normal => (match packShape σ hs with | some y => loopT ex body n y | none => none)
    | e => (match idxEx e ex 0, packShape σ os with | some i, some y => some (i, y) | _, _ => none)

def scopeT {hs os : Shape} (l : Nat) (ex : List Ex) (body : St → (Ex → St → Option (Nat × Tup os.ks)) → Option (Nat × Tup os.ks)) :
    Nat → Tup hs.ks → Option (Nat × Tup os.ks)
  | 0, _ => none
  | n + 1, x => body (stOf hs x) fun e σ => match e with
    | .goto l' => if l' = l then (match packShape σ hs with | some y => scopeT l ex body n y | none => none)
      else (match idxEx e ex 0, packShape σ os with | some i, some y => some (i, y) | _, _ => none)
    | e => (match idxEx e ex 0, packShape σ os with | some i, some y => some (i, y) | _, _ => none)

/-- By the number of an exit. -/
def pickEx {R : Type} (i : Nat) (K : Ex → Option R) : List Ex → Nat → Option R
  | [], _ => none
  | [e], _ => K e
  | e :: e' :: r, j => bif Nat.beq i j then K e else pickEx i K (e' :: r) (j + 1)

/-- The ways out of a code. -/
def union (a b : List Ex) : List Ex := a ++ b.filter fun e => !(a.any fun x => decide (x = e))
def exits : Code → List Ex
  | .skip | .region .. | .label _ | .rangeFunc .. | .refuse _ => []
  | .seq a b => union (exits a) (exits b)
  | .cond _ a b => union (exits a) (exits b)
  | .block id c => (exits c).filter fun e => !decide (e = .exit id)
  | .loop c => exits c
  | .scope c => exits c
  | .exit id => [.exit id]
  | .goto l => [.goto l]
  | .ret => [.ret]

def labelsOf : Code → List Nat
  | .seq a b => labelsOf a ++ labelsOf b
  | .label l => [l]
  | _ => []

def Ex.inside (ls : List Nat) : Ex → Bool
  | .goto l => mem ls l
  | _ => false

/-! ### operations that the model may run in several orders -/
/-- The slots whose names a cell leans on. -/
def PC.refs : PC → List Nat
  | .slice _ _ _ (.own n) => [n / 64]
  | .elemT _ g _ _ => [g / 64]
  | .box d _ => [d]
  | _ => []
def SV.refs (s : SV) : List Nat := s.cells.flatMap PC.refs
def PV.refs : PV → List Nat
  | .sv s => s.refs
  | .tup l => l.flatMap SV.refs
  | _ => []
def entRefs : List (Nat × PV) → List Nat
  | [] => []
  | (_, p) :: r => p.refs ++ entRefs r
def boxRefs : List (Nat × (TypeId × List PC)) → List Nat
  | [] => []
  | (d, (_, cs)) :: r => d :: (cs.flatMap PC.refs ++ boxRefs r)
def St.refs (σ : St) : List Nat := entRefs σ.s ++ boxRefs σ.b

/-- An operation that writes nothing but its own slot (and what its slot's names name). -/
def okV (σ : St) (o : Oper) (d : Nat) : Bool :=
  match o.op with
  | .move _ | .assign _ | .pick .. | .build .. | .binOp .. | .unOp .. | .convert .. | .fieldAddr .. | .indexAddr .. | .index .. | .extract .. | .nilCheck .. => true
  | .load _ p => (match σ.ev p with | .sv (.one (.elemT ..)) => false | _ => true)
  | .buildSlice _ _ parts => (match partTags σ parts.toList with | [] => true | _ :: _ => false)
  | .slice _ x _ _ _ => !(o.pos == "slices.go:428") && (match σ.ev x with | .sv (.one (.slice _ _ _ (.own _))) => false | _ => true)
  | .call c => (match c.callee with
    | .builtin .len | .builtin .cap | .builtin .max | .builtin .min => true
    | .builtin .append => (match c.args.toList, c.argTypes.toList with
      | [s, _], [ty, ty'] => decide (ty = ty') && (match σ.ev s with | .sv (.one (.slice _ _ _ .exact)) => true | .sv (.one (.slice _ _ _ .nil)) => true | _ => false)
      | _, _ => false)
    | .value f => (match σ.ev f, evSVs σ c.args.toList with
      | .sv (.one (.clo f caps)), some args => (match handed σ (argSlots 0 (E.sig f).args) (typedSVs E c.argTypes.toList args ++ caps.map capSV) with
        | some h => (match h.srcs, (bif (E.sig f).res.all Kd.isFlat then [] else h.pl) with
          | [], [] => (ownNames d 0 (E.sig f).res).all fun n => Nat.beq (n / 64) d
          | _, _ => false)
        | none => false)
      | .sv (.one (.fnv _)), some _ => true
      | _, _ => false)
    | _ => false)
  | _ => false

/-- Of each operation, as bits: those that stand before it in every order. -/
def befores : List Oper → List Nat → List Nat
  | [], acc => acc
  | o :: r, acc => befores r (acc ++ [o.after.toList.foldl (fun s e => bif Region.binds .any e then s ||| 2 ^ e.on ||| acc.getD e.on 0 else s) 0])
def edgesOK : Nat → List Oper → Bool
  | _, [] => true
  | i, o :: r => (o.after.toList.all fun e => !Region.binds .any e || decide (e.on < i)) && edgesOK (i + 1) r
/-- How many operations there are before those that stand behind all that go before them. -/
def freeLen : List Nat → Nat → Nat → Nat
  | [], _, acc => acc
  | b :: r, k, acc => freeLen r (k + 1) (bif Nat.beq b (2 ^ k - 1) then acc else k + 1)

def idxN (s : Nat) : List Nat → Nat → Option Nat
  | [], _ => none
  | x :: r, k => bif Nat.beq x s then some k else idxN s r (k + 1)
def depOK (bs ds : List Nat) (i s : Nat) : Bool := match idxN s ds 0 with | none => true | some k => Nat.testBit (bs.getD i 0) k
def refOK (bs ds : List Nat) (i s : Nat) : Bool := match idxN s ds 0 with | none => true | some k => Nat.beq k i || Nat.testBit (bs.getD i 0) k
def looksOf (all : List Oper) (o : Oper) : List Nat :=
  (o.op.operands.toList.filterMap fun x => match x with | .tmp t => some t | _ => none) ++ (match o.guard with | some (g, _) => ((all[g]?).bind (·.dst)).toList | none => [])

def freeK (run : Runs E) (all : List Oper) (bs ds nn : List Nat) {R : Type} : Nat → List Oper → St → List (Nat × (TypeId × List PC)) → (St → List (Nat × (TypeId × List PC)) → Option R) → Option R
  | _, [], σ, nb, K => K σ nb
  | i, o :: r, σ, nb, K =>
    match o.dst with
    | none => none
    | some d =>
      bif (looksOf all o).all (depOK bs ds i) then
        let next (σ1 : St) (pv : PV) (nb' : List (Nat × (TypeId × List PC))) : Option R := bif pv.refs.all (refOK bs ds i) then freeK run all bs ds nn (i + 1) r (σ1.put (some d) pv) nb' K else none
        let go (σ1 : St) : Option R := match o.op with
          | .alloc t => (match E.ti t with
            | some ti => (match ti.ty with
              | some u => bif zeroable u && mem nn d then next σ1 (.sv (.one (.box d 0))) ((d, (t, zeroPC u)) :: nb) else none
              | none => none)
            | none => none)
          | _ => bif okV E σ1 o d && (o.op.operands.toList.all fun x => (σ1.ev x).refs.all fun s => !mem nn s) then opK E run σ1 o fun σ' => next σ1 (σ'.get d) nb else none
        match o.guard with
        | none => go σ
        | some (j, want) => (match (all[j]?).bind (·.dst) with
          | none => none
          | some slot => guardK σ slot want go fun σ1 => next σ1 .void nb)
      else none

def isAlloc : Op → Bool
  | .alloc _ => true
  | _ => false

/-- Operations that the model may run in several orders. -/
def drawK (run : Runs E) (all : List Oper) {R : Type} (σ : St) (K : St → Option R) : Option R :=
  let bs := befores all []
  let m := freeLen bs 0 0
  let ds := (all.take m).map fun o => o.dst.getD 0
  let nn := (all.take m).filterMap fun o => bif isAlloc o.op then o.dst else none
  bif nodup ds && (edgesOK 0 all && σ.refs.all fun s => !mem ds s) then
    freeK E run all bs ds nn 0 (all.take m) σ [] fun σ1 nb => opsK E run all (all.drop m) { s := σ1.s, b := nb ++ σ1.b } K
  else none

/-- A code, run from its head (j = none), or from behind the label l that stands in it (j = some l). -/
def execK (run : Runs E) (fuel f : Nat) : Code → (cur : Nat) → (j : Option Nat) → {R : Type} → St → (Ex → St → Option R) → Option R
  | .skip, _, none, _, σ, K => K .normal σ
  | .region _ ops dr, _, none, _, σ, K => bif dr then drawK E run ops.toList σ (fun σ' => K .normal σ') else opsK E run ops.toList ops.toList σ fun σ' => K .normal σ'
  | .seq a b, cur, none, _, σ, K => execK run fuel f a cur none σ fun e σ' => match e with
    | .normal => execK run fuel f b cur none σ' K
    | e => K e σ'
  | .seq a b, cur, some l, _, σ, K =>
    bif mem (labelsOf a) l then (execK run fuel f a cur (some l) σ fun e σ' => match e with
      | .normal => execK run fuel f b cur none σ' K
      | e => K e σ')
    else execK run fuel f b cur (some l) σ K
  | .cond (.tmp c) a b, cur, none, _, σ, K => match σ.get c with
    | .sv (.one (.bool t)) => bif t then execK run fuel f a cur none (σ.put (some c) (.sv (.one (.bool true)))) K
      else execK run fuel f b cur none (σ.put (some c) (.sv (.one (.bool false)))) K
    | _ => none
  | .block id c, _, none, _, σ, K => execK run fuel f c id none σ fun e σ' => match e with
    | .exit id' => if id' = id then K .normal σ' else K (.exit id') σ'
    | e => K e σ'
  | .loop c, cur, none, _, σ, K => match E.shape f cur with
    | none => none
    | some (hs, os) => match packShape σ hs with
      | none => none
      | some x => (loopT (hs := hs) (os := os) (exits c) (fun σ' K' => execK run fuel f c cur none σ' K') fuel x).bind fun r => pickEx r.1 (fun e => K e (stOf os r.2)) (exits c) 0
  | .scope c, cur, none, _, σ, K => execK run fuel f c cur none σ fun e σ' => match e with
    | .goto l => bif mem (labelsOf c) l then (match E.shape f (1000 + l) with
      | some (hs, os) => (match packShape σ' hs with
        | none => none
        | some x => (scopeT (hs := hs) (os := os) l ((exits c).filter fun e => !decide (e = .goto l)) (fun σ' K' => execK run fuel f c cur (some l) σ' K') fuel x).bind fun r =>
            pickEx r.1 (fun e => bif e.inside (labelsOf c) then none else K e (stOf os r.2)) ((exits c).filter fun e => !decide (e = .goto l)) 0)
      | _ => none) else K (.goto l) σ'
    | e => K e σ'
  | .exit id, _, none, _, σ, K => K (.exit id) σ
  | .goto l, _, none, _, σ, K => K (.goto l) σ
  | .ret, _, none, _, σ, K => K .ret σ
  | .label _, _, none, _, σ, K => K .normal σ
  | .label l', _, some l, _, σ, K => bif Nat.beq l' l then K .normal σ else none
  | _, _, _, _, _, _ => none

/-- Results. -/
def resSV (σ : St) : ResultVar → Option SV
  | .tmp t => match σ.get t with | .sv s => some s | _ => none
  | .cell a t => loadK E σ t (σ.get a) some
def resSVs (σ : St) : List ResultVar → Option (List SV)
  | [] => some []
  | r :: rs => match resSV E σ r, resSVs σ rs with
    | some s, some l => some (s :: l)
    | _, _ => none
def resTup (σ : St) (rs : List ResultVar) (tys : List TypeId) (ks : List Kd) : Option (Tup ks) :=
  match resSVs E σ rs with
  | some l => match handed σ (resSlots 0 0 ks) (typedSVs E tys l) with
    | some h => bif h.rb.isEmpty then packAll σ ks (typedSVs E tys l) else none
    | none => none
  | none => none

def argsOf (i : Nat) : (ks : List Kd) → Tup ks → List (Nat × PV)
  | [], _ => []
  | [k], x => [(i, .sv (k.unpack i 0 x))]
  | k :: k' :: ks, x => (i, .sv (k.unpack i 0 x.1)) :: argsOf (i + 1) (k' :: ks) x.2

def fnK (run : Runs E) (fuel f : Nat) (fn : Func) (x : Tup (E.sig f).args) : Option (Tup (E.sig f).res) :=
  match fn.body with
  | none => none
  | some c => execK E run fuel f c 0 none { s := argsOf 0 (E.sig f).args x, b := [] } fun e σ => match e with
    | .normal | .ret => resTup E σ fn.results.toList fn.resultTypes.toList (E.sig f).res
    | _ => none

def run : Nat → Runs E
  | 0 => fun _ _ => none
  | k + 1 => fun f x => match E.foreign f with
    | some g => g x
    | none => match E.fn f with
      | some fn => fnK E (run k) k f fn x
      | none => none

/-! ### a loop, a scope by its number: for the equations -/
def codeAt (b : Nat) : Code → Nat → Option Code
  | .seq a c, cur => match codeAt b a cur with | some x => some x | none => codeAt b c cur
  | .cond _ a c, cur => match codeAt b a cur with | some x => some x | none => codeAt b c cur
  | .block id c, _ => codeAt b c id
  | .loop c, cur => bif Nat.beq cur b then some c else codeAt b c cur
  | .scope c, cur => codeAt b c cur
  | _, _ => none
def scopeAt (l : Nat) : Code → Nat → Option (Code × Nat)
  | .seq a c, cur => match scopeAt l a cur with | some x => some x | none => scopeAt l c cur
  | .cond _ a c, cur => match scopeAt l a cur with | some x => some x | none => scopeAt l c cur
  | .block id c, _ => scopeAt l c id
  | .loop c, cur => scopeAt l c cur
  | .scope c, cur => bif mem (labelsOf c) l then some (c, cur) else scopeAt l c cur
  | _, _ => none
def Env.hs (f b : Nat) : Shape := ((E.shape f b).getD ([], [])).1
def Env.os (f b : Nat) : Shape := ((E.shape f b).getD ([], [])).2
def lp (f b k n : Nat) (x : Tup (E.hs f b).ks) : Option (Nat × Tup (E.os f b).ks) :=
  match (E.fn f).bind (·.body) with
  | none => none
  | some c => match codeAt b c 0 with
    | none => none
    | some c => loopT (exits c) (fun σ' K' => execK E (run E k) k f c b none σ' K') n x
def sc (f l k n : Nat) (x : Tup (E.hs f (1000 + l)).ks) : Option (Nat × Tup (E.os f (1000 + l)).ks) :=
  match (E.fn f).bind (·.body) with
  | none => none
  | some c => match scopeAt l c 0 with
    | none => none
    | some (c, cur) => scopeT l ((exits c).filter fun e => !decide (e = .goto l)) (fun σ' K' => execK E (run E k) k f c cur (some l) σ' K') n x

end
end Go.Sv
