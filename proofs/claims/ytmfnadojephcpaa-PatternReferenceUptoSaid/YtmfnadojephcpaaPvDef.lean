import Derived.WalkKit
import Derived.Orders
namespace Go.Pv
inductive IV where
 | bool (b : Bool)
 | int (k : IntKind) (n : Int)
 | str (s : List UInt8)
 | nilptr
 | ptr (id off : Nat)
 | vref (cs : List IV) (off : Nat)
 | nilslice
 | hslice (id off len sz : Nat)
 | vslice (id : Option Nat) (e len sz : Nat) (cs : List IV)
 | nilmap
 | map (id : Nat)
 | func (fn : Fn) (first captured : List IV)
 | nilfunc
 | iface (t : TypeId) (v : IV)
 | nilIface
 | agg (cs : List IV)
 | tuple (vs : List IV)
 deriving Inhabited
inductive TV where
 | v (x : IV)
 | l (s off : Nat)
 | u
 deriving Inhabited
inductive PT (α : Type) where
 | nil
 | node (l : PT α) (v : Option α) (r : PT α)
 deriving Inhabited
namespace PT
variable {α : Type}
def get : PT α -> Nat -> Option α
 | nil, _ => none
 | node l v r, k => if k = 0 then v else if k % 2 = 1 then l.get ((k - 1) / 2) else r.get ((k - 2) / 2)
def left : PT α -> PT α
 | nil => nil
 | node l _ _ => l
def right : PT α -> PT α
 | nil => nil
 | node _ _ r => r
def val : PT α -> Option α
 | nil => none
 | node _ v _ => v
def setF : Nat -> PT α -> Nat -> Option α -> PT α
 | 0, t, _, _ => t
 | n + 1, t, k, x =>
   if k = 0 then node t.left x t.right
   else if k % 2 = 1 then node (setF n t.left ((k - 1) / 2) x) t.val t.right
   else node t.left t.val (setF n t.right ((k - 2) / 2) x)
def set (t : PT α) (k : Nat) (x : Option α) : PT α := setF (k + 1) t k x
def filt (f : α -> Bool) : PT α -> PT α
 | nil => nil
 | node l v r => node (l.filt f) (match v with | some x => if f x then some x else none | none => none) (r.filt f)
end PT
inductive IObj where
 | cells (cs : List IV)
 | tip (n : Nat)
 | map (es : List (IV × IV))
 | dead
 | free
 deriving Inhabited
structure Heap where
 o : PT IObj
 next : Nat
 deriving Inhabited
def Heap.get (h : Heap) (id : Nat) : IObj := (h.o.get id).getD .dead
def Heap.set (h : Heap) (id : Nat) (x : IObj) : Heap := { h with o := h.o.set id (some x) }
def Heap.push (h : Heap) (x : IObj) : Heap := { o := h.o.set h.next (some x), next := h.next + 1 }
def Heap.empty : Heap := ⟨.nil, 0⟩
def Heap.reserve (h : Heap) : Nat -> Heap
 | 0 => h
 | k + 1 => (h.reserve k).push .free
structure Fr where
 tm : PT TV
 lv : PT (List IV)
 deriving Inhabited
structure Env where
 P : Program
 G : Nat -> Option (List IV)
 A : FuncId -> Nat -> Nat
 bx : FuncId -> Nat -> Nat
 fz : FuncId -> Bool
 nf : FuncId -> Bool
 iso : FuncId -> Bool
 ld : FuncId -> Nat -> Bool := fun _ _ => false
 ln : FuncId -> Nat -> Nat := fun _ _ => 0
 an : FuncId -> Nat -> List Nat := fun _ _ => []
 od : FuncId -> Nat -> List Nat := fun _ _ => []
def isCell : IV -> Bool
 | .agg _ => false
 | .tuple _ => false
 | _ => true
def notTup : IV -> Bool
 | .tuple _ => false
 | _ => true
def leafIV : Value -> Option IV
 | .bool b => some (.bool b)
 | .int k n => some (.int k n)
 | .string s => some (.str s.data.toList)
 | .pointer none => some .nilptr
 | .slice none 0 0 => some .nilslice
 | .map none => some .nilmap
 | .nilFunc => some .nilfunc
 | .nilIface => some .nilIface
 | _ => none
def leavesIV : List Value -> Option (List IV)
 | [] => some []
 | v :: r => match leafIV v, leavesIV r with
   | some x, some xs => some (x :: xs)
   | _, _ => none
def ofValue : Value -> Option IV
 | .agg cs => (leavesIV cs.toList).map .agg
 | v => leafIV v
def cellsOf : IV -> List IV
 | .agg cs => cs
 | v => [v]
section
variable (P : Program)
def szOf (t : TypeId) : Option Nat := (P.info? t).map (·.size)
def bytesOf (t : TypeId) : Option Nat := (P.info? t).map (·.bytes)
def zeroIV (t : TypeId) : Option IV := ((P.info? t).bind (·.zero)).bind ofValue
def isAggD : TypeDesc -> Bool
 | .struct _ => true
 | .array _ _ => true
 | _ => false
def shapeOf (t : TypeId) : Option (Bool × Nat) :=
 match P.underlying t, P.info? t with
 | some d, some i => some (isAggD d, i.size)
 | _, _ => none
def rdVar (t : TypeId) (cs : List IV) (off : Nat) : Option IV :=
 match shapeOf P t with
 | some (true, n) => if off + n <= cs.length then some (.agg ((cs.drop off).take n)) else none
 | some (false, _) => cs[off]?
 | none => none
def wrVar (t : TypeId) (cs : List IV) (off : Nat) (v : IV) : Option (List IV) :=
 let c := cellsOf v
 if notTup v then
  match szOf P t with
  | some n => if c.length = n /\ off + n <= cs.length then some (cs.take off ++ c ++ cs.drop (off + n)) else none
  | none => none
 else none
def fieldOf (t : TypeId) (f : Nat) : Option (TypeId × Nat) :=
 match P.underlying t with
 | some (.struct fs) => (fs[f]?).map fun x => (x.type, x.offset)
 | _ => none
end
inductive CK where
 | int (k : IntKind)
 | bool
 | str
 | slc (sz : Nat)
 | any
def ckOf (P : Program) (t : TypeId) : CK := match P.underlying t with
 | some (.int k) => .int k
 | some .bool => .bool
 | some .string => .str
 | some (.slice e) => match szOf P e with
   | some sz => .slc sz
   | none => .any
 | _ => .any
def rep {α : Type} : Nat -> List α -> List α
 | 0, _ => []
 | n + 1, l => l ++ rep n l
def cksOf (P : Program) : Nat -> TypeId -> List CK
 | 0, _ => []
 | n + 1, t => match P.underlying t with
   | some (.struct fs) => fs.toList.flatMap fun x => cksOf P n x.type
   | some (.array m e) => rep m (cksOf P n e)
   | _ => [ckOf P t]
def nrmC : CK -> IV -> IV
 | .slc sz, .nilslice => .vslice none 0 0 sz []
 | .slc _, .vslice _ _ len z cs => .vslice none 0 len z cs
 | _, v => v
def nrmL : List CK -> List IV -> List IV
 | ck :: r, v :: vs => nrmC ck v :: nrmL r vs
 | _, vs => vs
def nrmV (P : Program) (t : TypeId) (v : IV) : IV := match v with
 | .agg cs => .agg (nrmL (cksOf P 8 t) cs)
 | v => nrmC (ckOf P t) v
def nrmVs (P : Program) : List TypeId -> List IV -> List IV
 | t :: ts, v :: vs => nrmV P t v :: nrmVs P ts vs
 | _, vs => vs
mutual
def pureB : IV -> Bool
 | .ptr _ _ => false
 | .hslice _ _ _ _ => false
 | .map _ => false
 | .vslice none _ _ _ cs => pureL cs
 | .vslice (some _) _ _ _ _ => false
 | .func _ xs ys => pureL xs && pureL ys
 | .iface _ v => pureB v
 | .agg cs => pureL cs
 | .tuple cs => pureL cs
 | .vref cs _ => pureL cs
 | _ => true
def pureL : List IV -> Bool
 | [] => true
 | v :: r => pureB v && pureL r
end
def spl (cells : List IV) (off : Nat) (c : List IV) : List IV := cells.take off ++ c ++ cells.drop (off + c.length)
def ifill (place : Nat -> Option (Nat × Nat)) (cells : List IV) : List (Nat × IV) -> Option (List IV)
 | [] => some cells
 | (i, v) :: r =>
   match place i with
   | none => none
   | some (off, n) => if (cellsOf v).length = n /\ off + n <= cells.length /\ notTup v = true then ifill place (spl cells off (cellsOf v)) r else none
def placeOf (P : Program) (fs : Array Field) (i : Nat) : Option (Nat × Nat) := (fs[i]?).map fun x => (x.offset, P.cellsOf x.type)
def repl (n : Nat) (z : List IV) : List IV :=
 match n with
 | 0 => []
 | n + 1 => z ++ repl n z
def bvAnd (k : IntKind) (a b : Int) : Int := k.wrap (BitVec.ofInt k.bits a &&& BitVec.ofInt k.bits b).toNat
def bvOr (k : IntKind) (a b : Int) : Int := k.wrap (BitVec.ofInt k.bits a ||| BitVec.ofInt k.bits b).toNat
def bvXor (k : IntKind) (a b : Int) : Int := k.wrap (BitVec.ofInt k.bits a ^^^ BitVec.ofInt k.bits b).toNat
def bvAndNot (k : IntKind) (a b : Int) : Int := k.wrap (BitVec.ofInt k.bits a &&& ~~~ BitVec.ofInt k.bits b).toNat
def intBin (op : BinOp) (k : IntKind) (a b : Int) : Option IV :=
 match op with
 | .add => some (.int k (k.wrap (a + b)))
 | .sub => some (.int k (k.wrap (a - b)))
 | .mul => some (.int k (k.wrap (a * b)))
 | .quo => if b = 0 then none else some (.int k (k.wrap (a.tdiv b)))
 | .rem => if b = 0 then none else some (.int k (a.tmod b))
 | .and => some (.int k (bvAnd k a b))
 | .or => some (.int k (bvOr k a b))
 | .xor => some (.int k (bvXor k a b))
 | .andNot => some (.int k (bvAndNot k a b))
 | .eql => some (.bool (a == b))
 | .neq => some (.bool (a != b))
 | .lss => some (.bool (a < b))
 | .leq => some (.bool (a <= b))
 | .gtr => some (.bool (a > b))
 | .geq => some (.bool (a >= b))
 | _ => none
def shiftBin (op : BinOp) (k : IntKind) (a b : Int) : Option IV :=
 if b < 0 then none
 else match op with
  | .shl => some (.int k (k.wrap (a * 2 ^ (min b.toNat k.bits))))
  | .shr => some (.int k (a.fdiv (2 ^ (min b.toNat k.bits))))
  | _ => none
def strBin (op : BinOp) (x y : List UInt8) : Option IV :=
 match op with
 | .add => if ((x.length + y.length : Nat) : Int) > 9223372036854775807 then none else some (.str (x ++ y))
 | .eql => some (.bool (x == y))
 | .neq => some (.bool (!(x == y)))
 | .lss => some (.bool (Op.bytesLess x y))
 | .leq => some (.bool (Op.bytesLess x y || x == y))
 | .gtr => some (.bool (!(Op.bytesLess x y || x == y)))
 | .geq => some (.bool (!Op.bytesLess x y))
 | _ => none
def scalarEq : TypeDesc -> IV -> IV -> Option Bool
 | .bool, .bool a, .bool b => some (a == b)
 | .int _, .int k a, .int k' b => if k = k' then some (a == b) else none
 | .string, .str a, .str b => some (a == b)
 | _, _, _ => none
section
variable (P : Program)
def fieldsEq : List Field -> List IV -> List IV -> Option Bool
 | [], _, _ => some true
 | f :: fs, xs, ys =>
   if f.name == "_" then none else
   match P.underlying f.type, xs[f.offset]?, ys[f.offset]? with
   | some d, some x, some y => match scalarEq d x y with
     | some true => fieldsEq fs xs ys
     | some false => some false
     | none => none
   | _, _, _ => none
def eqIV (c : Bool) (t : TypeId) (x y : IV) : Option Bool :=
 match P.underlying t with
 | some (.struct fs) =>
   match x, y with
   | .agg xs, .agg ys => if P.stoodInHeld t || P.eqGuardType P.depth t then none else fieldsEq P fs.toList xs ys
   | _, _ => none
 | some (.pointer _) =>
   match x, y with
   | .nilptr, .nilptr => some true
   | .nilptr, .ptr _ _ | .nilptr, .vref _ _ | .ptr _ _, .nilptr | .vref _ _, .nilptr => some false
   | _, _ => none
 | some (.interface _) =>
   match x, y with
   | .nilIface, .nilIface => if c then some true else none
   | .nilIface, .iface _ _ | .iface _ _, .nilIface => some false
   | _, _ => none
 | some (.slice _) =>
   match x, y with
   | .nilslice, .nilslice => some true
   | .nilslice, .hslice .. | .hslice .., .nilslice => some false
   | .nilslice, .vslice id e len _ _ => if id.isSome || (e == 1) || decide (0 < len) then some false else none
   | .vslice id e len _ _, .nilslice => if id.isSome || (e == 1) || decide (0 < len) then some false else none
   | _, _ => none
 | some (.map _ _) =>
   match x, y with
   | .nilmap, .nilmap => some true
   | .nilmap, .map _ | .map _, .nilmap => some false
   | _, _ => none
 | some (.func _ _ _) =>
   match x, y with
   | .nilfunc, .nilfunc => some true
   | .nilfunc, .func .. | .func .., .nilfunc => some false
   | _, _ => none
 | some d => scalarEq d x y
 | none => none
def binIV (op : BinOp) (c : Bool) (t : TypeId) (x y : IV) : Option IV :=
 match x, y with
 | .int k a, .int k' b =>
   match op with
   | .shl => shiftBin .shl k a b
   | .shr => shiftBin .shr k a b
   | op => if k = k' then intBin op k a b else none
 | .str a, .str b => strBin op a b
 | x, y =>
   match op with
   | .eql => (eqIV P c t x y).map .bool
   | .neq => (eqIV P c t x y).map fun b => .bool (!b)
   | _ => none
def unIV (op : UnOp) (x : IV) : Option IV :=
 match op, x with
 | .neg, .int k n => some (.int k (k.wrap (0 - n)))
 | .xor, .int k n => intBin .xor k (if k.signed then -1 else k.max) n
 | .not, .bool b => some (.bool (!b))
 | _, _ => none
def bytesIV : List IV -> Option (List UInt8)
 | [] => some []
 | .int .u8 n :: r => (bytesIV r).map (UInt8.ofNat n.toNat :: ·)
 | _ => none
def convIV (s d : TypeId) (x : IV) : Option IV :=
 match P.underlying s, P.underlying d with
 | some ds, some dd =>
   match dd, x with
   | .int k, .int _ n => some (.int k (k.wrap n))
   | .string, .str b => some (.str b)
   | .string, x =>
     match ds with
     | .slice e => match P.underlying e with
       | some (.int .u8) => match x with
         | .nilslice => some (.str [])
         | .vslice _ _ _ 1 cs => (bytesIV cs).map .str
         | _ => none
       | _ => none
     | _ => none
   | _, _ => none
 | _, _ => none
def asI : Option TV -> Option Int
 | some (.v (.int _ n)) => some n
 | _ => none
def cutBounds (len : Nat) (lo hi : Option (Option TV)) : Option (Nat × Nat) :=
 let h := match hi with
  | none => some (len : Int)
  | some x => asI x
 let l := match lo with
  | none => some (0 : Int)
  | some x => asI x
 match l, h with
 | some l, some h => if 0 <= l /\ l <= h /\ h <= len then some (l.toNat, h.toNat) else none
 | _, _ => none
def sliceIV (t : TypeId) (x : IV) (lo hi : Option (Option TV)) : Option IV :=
 match P.underlying t with
 | some .string => match x with
   | .str s => (cutBounds s.length lo hi).map fun (l, h) => .str ((s.drop l).take (h - l))
   | _ => none
 | some (.slice e) => match szOf P e with
   | some sz => match x with
     | .nilslice => (cutBounds 0 lo hi).map fun _ => .nilslice
     | .hslice id off len z => if z = sz then (cutBounds len lo hi).map fun (l, h) => .hslice id (off + l * sz) (h - l) sz else none
     | .vslice id e len z cs => if z = sz then (cutBounds len lo hi).map fun (l, h) => .vslice id (e - (len - h) * sz) (h - l) sz ((cs.drop (l * sz)).take ((h - l) * sz)) else none
     | _ => none
   | none => none
 | _ => none
end
section
variable (E : Env)
def evOp (tm : Nat -> Option TV) : Operand -> Option TV
 | .tmp t => tm t
 | .const v => (ofValue v).map .v
 | .global g => (E.G g).map fun cs => .v (.vref cs 0)
 | .func f => some (.v (.func (.func f) [] []))
end
def plain : Option TV -> Option IV
 | some (.v x) => some x
 | _ => none
def plains : List (Option TV) -> Option (List IV)
 | [] => some []
 | x :: r => match plain x, plains r with
   | some v, some vs => some (v :: vs)
   | _, _ => none
def plainParts : List (Nat × Option TV) -> Option (List (Nat × IV))
 | [] => some []
 | (i, x) :: r => match plain x, plainParts r with
   | some v, some vs => some ((i, v) :: vs)
   | _, _ => none
def isConst : Operand -> Bool
 | .const _ => true
 | _ => false
def min2 : IV -> IV -> Option IV
 | .int k x, .int _ y => some (.int k (if y < x then y else x))
 | _, _ => none
def max2 : IV -> IV -> Option IV
 | .int k x, .int _ y => some (.int k (if y > x then y else x))
 | _, _ => none
def fold2 (f : IV -> IV -> Option IV) : IV -> List IV -> Option IV
 | x, [] => some x
 | x, y :: r => match f x y with
   | some z => fold2 f z r
   | none => none
def addrPlus (n : Nat) : TV -> Option TV
 | .l s off => some (.l s (off + n))
 | .v (.ptr id off) => some (.v (.ptr id (off + n)))
 | .v (.vref cs off) => some (.v (.vref cs (off + n)))
 | _ => none
def isIfaceT (P : Program) (t : TypeId) : Option Bool :=
 match P.underlying t with
 | some (.interface _) => some true
 | some _ => some false
 | none => none
section
variable (E : Env) (f : FuncId) (o : Oper) (ev : Operand -> Option TV) (lv : Nat -> Option (List IV)) (h : Heap)
def pSem : Option (TV × Option (List IV)) :=
 match o.op with
 | .move x => (ev x).map (·, none)
 | .assign x => (ev x).map (·, none)
 | .pick c a b => match ev c with
   | some (.v (.bool true)) => (ev a).map (·, none)
   | some (.v (.bool false)) => (ev b).map (·, none)
   | _ => none
 | .alloc t => match o.dst with
   | some d => if E.bx f d = 0 then (zeroIV E.P t).map fun z => (.l d 0, some (cellsOf z)) else none
   | none => none
 | .box _ x => match o.dst, plain (ev x) with
   | some d, some v => if E.bx f d = 0 /\ notTup v = true then some (.l d 0, some (cellsOf v)) else none
   | _, _ => none
 | .build t parts =>
   match zeroIV E.P t, plainParts (parts.toList.map fun (i, x) => (i, ev x)) with
   | some z, some ps =>
     match E.P.underlying t with
     | some (.struct fs) => if fs.toList.all (fun x => (E.P.info? x.type).isSome) then (ifill (placeOf E.P fs) (cellsOf z) ps).map fun cs => (.v (.agg cs), none) else none
     | some (.array _ e) => match szOf E.P e with
       | some n => (ifill (fun i => some (i * n, n)) (cellsOf z) ps).map fun cs => (.v (.agg cs), none)
       | none => none
     | _ => none
   | _, _ => none
 | .buildSlice t n parts => match E.P.underlying t, o.dst with
   | some (.slice e), some d => if E.A f d = 0 then match szOf E.P e, zeroIV E.P e, plainParts (parts.toList.map fun (i, x) => (i, ev x)) with
     | some (sz + 1), some z, some ps => if n * (sz + 1) <= 16777216 /\ (cellsOf z).length = sz + 1 then
       (ifill (fun i => some (i * (sz + 1), sz + 1)) (repl n (cellsOf z)) ps).map fun cs => (.v (.vslice none 1 n (sz + 1) (match E.nf f with | true => nrmL (rep n (cksOf E.P 8 e)) cs | false => cs)), none)
       else none
     | _, _, _ => none
     else none
   | _, _ => none
 | .load t a => match ev a with
   | some (.v (.vref cs off)) => (rdVar E.P t cs off).map fun v => (.v v, none)
   | _ => none
 | .nilCheck x => match ev x with
   | some (.l s off) => some (.l s off, none)
   | some (.v (.ptr id off)) => some (.v (.ptr id off), none)
   | some (.v (.vref cs off)) => some (.v (.vref cs off), none)
   | some (.v (.func (.func g) a b)) => some (.v (.func (.func g) a b), none)
   | some (.v (.iface t v)) => some (.v (.iface t v), none)
   | _ => none
 | .binOp op t x y _ => match plain (ev x), plain (ev y) with
   | some a, some b => (binIV E.P op (isConst x || isConst y) t a b).map fun v => (.v v, none)
   | _, _ => none
 | .unOp op _ x => match plain (ev x) with
   | some a => (unIV op a).map fun v => (.v v, none)
   | none => none
 | .convert s d x => match plain (ev x) with
   | some a => (convIV E.P s d a).map fun v => (.v v, none)
   | none => none
 | .makeInterface t x => match isIfaceT E.P t, plain (ev x) with
   | some false, some a => some (.v (.iface t a), none)
   | _, _ => none
 | .makeFunc fn a b => match plains (a.toList.map ev), plains (b.toList.map ev) with
   | some xs, some ys => some (.v (.func fn xs ys), none)
   | _, _ => none
 | .slice t x lo hi mx => match mx, plain (ev x) with
   | none, some a => (sliceIV E.P t a (lo.map ev) (hi.map ev)).map fun v => (.v v, none)
   | _, _ => none
 | .fieldAddr t x i => match fieldOf E.P t i, ev x with
   | some (ft, off), some a => match szOf E.P ft with
     | some (_ + 1) => (addrPlus off a).map (·, none)
     | _ => none
   | _, _ => none
 | .field t x i => match fieldOf E.P t i, plain (ev x) with
   | some (ft, off), some (.agg cs) => (rdVar E.P ft cs off).map fun v => (.v v, none)
   | _, _ => none
 | .indexAddr t x ix => match asI (ev ix), E.P.underlying t with
   | some i, some (.array n e) => match szOf E.P e, ev x with
     | some sz, some a => if 0 <= i /\ i < n then (addrPlus (i.toNat * sz) a).map (·, none) else none
     | _, _ => none
   | some i, some (.slice e) => match szOf E.P e, plain (ev x) with
     | some sz, some (.vslice _ _ len z cs) => if 0 <= i /\ i < len /\ z = sz then some (.v (.vref cs (i.toNat * sz)), none) else none
     | some sz, some (.hslice id off len z) => if 0 <= i /\ i < len /\ z = sz then some (.v (.ptr id (off + i.toNat * sz)), none) else none
     | _, _ => none
   | _, _ => none
 | .index t x ix => match asI (ev ix), E.P.underlying t, plain (ev x) with
   | some i, some (.array n e), some (.agg cs) => match szOf E.P e with
     | some sz => if 0 <= i /\ i < n then (rdVar E.P e cs (i.toNat * sz)).map fun v => (.v v, none) else none
     | none => none
   | some i, some .string, some (.str s) => if 0 <= i then (s[i.toNat]?).map fun b => (.v (.int .u8 b.toNat), none) else none
   | _, _, _ => none
 | .extract x i => match plain (ev x) with
   | some (.tuple vs) => (vs[i]?).map fun v => (.v v, none)
   | _ => none
 | .typeAssert x _ t ok => match isIfaceT E.P t, plain (ev x) with
   | some false, some (.iface u v) =>
     if u = t then (if ok then some (.v (.tuple [v, .bool true]), none) else some (.v v, none))
     else if ok then (zeroIV E.P t).map fun z => (.v (.tuple [z, .bool false]), none) else none
   | some false, some .nilIface => if ok then (zeroIV E.P t).map fun z => (.v (.tuple [z, .bool false]), none) else none
   | _, _ => none
 | .call { callee := .builtin .len, args, argTypes } =>
   match argTypes[0]?, (args[0]?).bind fun x => plain (ev x) with
   | some t, some x =>
     match E.P.underlying t, x with
     | some .string, .str s => some (.v (.int .i64 s.length), none)
     | some (.slice _), .nilslice => some (.v (.int .i64 0), none)
     | some (.slice _), .hslice _ _ len _ => some (.v (.int .i64 len), none)
     | some (.slice _), .vslice _ _ len _ _ => some (.v (.int .i64 len), none)
     | some (.map _ _), .nilmap => some (.v (.int .i64 0), none)
     | some (.array n _), _ => some (.v (.int .i64 n), none)
     | _, _ => none
   | _, _ => none
 | .call { callee := .builtin .min, args, .. } => match plains (args.toList.map ev) with
   | some (x :: r) => (fold2 min2 x r).map fun v => (.v v, none)
   | _ => none
 | .call { callee := .builtin .max, args, .. } => match plains (args.toList.map ev) with
   | some (x :: r) => (fold2 max2 x r).map fun v => (.v v, none)
   | _ => none
 | _ => none
def lSem : Option TV :=
 match o.op with
 | .load t a => match ev a with
   | some (.l s off) => match lv s with
     | some cs => (rdVar E.P t cs off).map .v
     | none => none
   | _ => none
 | _ => none
def sSem : Option (Nat × List IV) :=
 match o.op with
 | .store t a x => match ev a, plain (ev x) with
   | some (.l s off), some v => match lv s with
     | some cs => (wrVar E.P t cs off v).map (s, ·)
     | none => none
   | _, _ => none
 | _ => none
def keyFits : TypeDesc -> IV -> Bool
 | .bool, .bool _ => true
 | .int _, .int _ _ => true
 | .string, .str _ => true
 | _, _ => false
def findIV (d : TypeDesc) (k : IV) : List (IV × IV) -> Option (Option IV)
 | [] => some none
 | (x, v) :: r => match scalarEq d k x with
   | some true => some (some v)
   | some false => findIV d k r
   | none => none
def updIV (d : TypeDesc) (k v : IV) : List (IV × IV) -> Option (List (IV × IV))
 | [] => some [(k, v)]
 | (x, u) :: r => match scalarEq d k x with
   | some true => some ((k, v) :: r)
   | some false => (updIV d k v r).map ((x, u) :: ·)
   | none => none
def posIV (d : TypeDesc) (k : IV) : List (IV × IV) -> Nat
 | [] => 0
 | (x, _) :: r => match scalarEq d k x with
   | some true => 0
   | _ => posIV d k r + 1
def putIV (v : IV) : Nat -> List (IV × IV) -> List (IV × IV)
 | _, [] => []
 | 0, (k, _) :: r => (k, v) :: r
 | n + 1, e :: r => e :: putIV v n r
def entIV (d : TypeDesc) (k z : IV) (es : List (IV × IV)) : Option (IV × Nat × List (IV × IV)) := match findIV d k es with
 | some (some v) => (updIV d k v es).map fun es' => (v, posIV d k es, es')
 | some none => some (z, es.length, es ++ [(k, z)])
 | none => none
def rSem : Option TV :=
 match o.op with
 | .load t a => match ev a with
   | some (.v (.ptr id off)) => match h.get id with
     | .cells cs => (rdVar E.P t cs off).map .v
     | _ => none
   | _ => none
 | .convert s d x => match E.P.underlying s, E.P.underlying d, plain (ev x) with
   | some (.slice e), some .string, some (.hslice id off len 1) => match E.P.underlying e, h.get id with
     | some (.int .u8), .cells cs => if off + len <= cs.length then (bytesIV ((cs.drop off).take len)).map fun b => .v (.str b) else none
     | _, _ => none
   | _, _, _ => none
 | .slice t x lo hi mx => match mx, E.P.underlying t, ev x with
   | none, some (.array n e), some (.v (.ptr id off)) => match h.get id, szOf E.P e with
     | .cells cs, some (sz + 1) => if off + n * (sz + 1) <= cs.length then (cutBounds n (lo.map ev) (hi.map ev)).map fun (l, k) => .v (.hslice id (off + l * (sz + 1)) (k - l) (sz + 1)) else none
     | _, _ => none
   | _, _, _ => none
 | .lookup t x k ok => match E.P.underlying t, plain (ev x), plain (ev k) with
   | some (.map kt et), some m, some key =>
     match E.P.underlying kt, (match m with | .nilmap => some [] | .map id => (match h.get id with | .map es => some es | _ => none) | _ => none) with
     | some d, some es => if keyFits d key then match findIV d key es with
       | some (some v) => some (.v (if ok then .tuple [v, .bool true] else v))
       | some none => (zeroIV E.P et).map fun z => .v (if ok then .tuple [z, .bool false] else z)
       | none => none
       else none
     | _, _ => none
   | _, _, _ => none
 | .call { callee := .builtin .len, args, argTypes } =>
   match argTypes[0]?, (args[0]?).bind fun x => plain (ev x) with
   | some t, some (.map id) => match E.P.underlying t, h.get id with
     | some (.map _ _), .map es => some (.v (.int .i64 es.length))
     | _, _ => none
   | _, _ => none
 | _ => none
def srcCells (sz : Nat) (x : IV) : Option (Nat × List IV) :=
 match x with
 | .nilslice => some (0, [])
 | .vslice _ _ len z cs => if z = sz then some (len, cs) else none
 | .hslice id off len z => if z = sz then (match h.get id with
   | .cells cs => if off + len * sz <= cs.length then some (len, (cs.drop off).take (len * sz)) else none
   | _ => none) else none
 | .str s => if sz = 1 then some (s.length, s.map fun b => .int .u8 b.toNat) else none
 | _ => none
def newRow (way len sz : Nat) (cs : List IV) : IV × Heap :=
 if way = 0 then (.vslice (some h.next) (len * sz) len sz cs, h.push (.tip (len * sz)))
 else (.hslice h.next 0 len sz, h.push (.cells cs))
def appendIV (way sz bytes : Nat) (s x : IV) : Option (IV × Heap) :=
 match srcCells h sz x with
 | some (n, xs) =>
   if n = 0 then (match s with
    | .nilslice => some (.nilslice, h)
    | .vslice id e len z cs => if z = sz then some (.vslice id e len z cs, h) else none
    | .hslice id off len z => if z = sz then some (.hslice id off len z, h) else none
    | _ => none)
   else match s with
    | .nilslice => if n * bytes <= 140737488355328 then some (newRow h way n sz xs) else none
    | .vslice none 1 len z cs => if z = sz /\ (len + n) * bytes <= 140737488355328 then some (newRow h way (len + n) sz (cs ++ xs)) else none
    | .vslice (some id) e len z cs =>
      match h.get id with
      | .tip m => if m = e /\ z = sz /\ (len + n) * bytes <= 140737488355328 then some (.vslice (some id) (e + n * sz) (len + n) sz (cs ++ xs), h.set id (.tip (e + n * sz))) else none
      | _ => none
    | .hslice id off len z =>
      match h.get id with
      | .cells cs => if off = 0 /\ z = sz /\ len * sz <= cs.length /\ (len + n) * bytes <= 140737488355328 then some (.hslice h.next 0 (len + n) sz, (h.set id .dead).push (.cells (cs.take (len * sz) ++ xs))) else none
      | _ => none
    | _ => none
 | none => none
def srcKind : TypeDesc -> Bool
 | .slice _ => true
 | .string => true
 | _ => false
def eSem : Option (Option TV × Heap) :=
 match o.op with
 | .alloc t => match o.dst with
   | some d => if E.bx f d = 0 then none else (zeroIV E.P t).map fun z => (some (.v (.ptr h.next 0)), h.push (.cells (cellsOf z)))
   | none => none
 | .box _ x => match o.dst, plain (ev x) with
   | some d, some v => if E.bx f d = 0 then none else if notTup v then some (some (.v (.ptr h.next 0)), h.push (.cells (cellsOf v))) else none
   | _, _ => none
 | .buildSlice t n parts => match E.P.underlying t, o.dst with
   | some (.slice e), some d => if E.A f d = 0 then none else match szOf E.P e, zeroIV E.P e, plainParts (parts.toList.map fun (i, x) => (i, ev x)) with
     | some (sz + 1), some z, some ps => if n * (sz + 1) <= 16777216 /\ (cellsOf z).length = sz + 1 then
       (ifill (fun i => some (i * (sz + 1), sz + 1)) (repl n (cellsOf z)) ps).map fun cs => let r := newRow h (E.A f d) n (sz + 1) cs; (some (.v r.1), r.2)
       else none
     | _, _, _ => none
   | _, _ => none
 | .makeSlice t l c => match E.P.underlying t, o.dst, asI (ev l), asI (ev c) with
   | some (.slice e), some d, some l, some c => match szOf E.P e, bytesOf E.P e, zeroIV E.P e with
     | some (sz + 1), some bytes, some z =>
       if 0 <= l /\ l <= c /\ c <= 9223372036854775807 /\ bytes * c <= 140737488355328 /\ (cellsOf z).length = sz + 1 then
        let r := newRow h (1 - E.A f d) l.toNat (sz + 1) (repl l.toNat (cellsOf z)); some (some (.v r.1), r.2)
       else none
     | _, _, _ => none
   | _, _, _, _ => none
 | .makeMap _ r => match r with
   | none => some (some (.v (.map h.next)), h.push (.map []))
   | some _ => none
 | .convert s d x => match E.P.underlying s, E.P.underlying d, o.dst, plain (ev x) with
   | some _, some (.slice e), some dst, some (.str b) => match E.P.underlying e with
     | some (.int .u8) => let r := newRow h (E.A f dst) b.length 1 (b.map fun c => .int .u8 c.toNat); some (some (.v r.1), r.2)
     | _ => none
   | _, _, _, _ => none
 | .store t a x => match ev a, plain (ev x) with
   | some (.v (.ptr id off)), some v => match h.get id with
     | .cells cs => (wrVar E.P t cs off v).map fun cs' => (none, h.set id (.cells cs'))
     | _ => none
   | _, _ => none
 | .mapUpdate t m k x => match E.P.underlying t, plain (ev m), plain (ev k), plain (ev x) with
   | some (.map kt _), some (.map id), some key, some v => match E.P.underlying kt, h.get id with
     | some d, .map es => if keyFits d key then (updIV d key v es).map fun es' => (none, h.set id (.map es')) else none
     | _, _ => none
   | _, _, _, _ => none
 | .mapEntry t m k => match E.P.underlying t, plain (ev m), plain (ev k) with
   | some (.map kt et), some (.map id), some key => match E.P.underlying kt, h.get id, zeroIV E.P et with
     | some d, .map es, some z => if keyFits d key then (entIV d key z es).map fun r => (some (.v (.tuple [r.1, .int .i64 r.2.1])), h.set id (.map r.2.2)) else none
     | _, _, _ => none
   | _, _, _ => none
 | .entryStore _ m s x => match plain (ev m), plain (ev s), plain (ev x) with
   | some (.map id), some (.int _ n), some v => match h.get id with
     | .map es => if 0 <= n /\ n < es.length then some (none, h.set id (.map (putIV v n.toNat es))) else none
     | _ => none
   | _, _, _ => none
 | .call { callee := .builtin .append, args, argTypes } =>
   match argTypes.toList, args.toList with
   | [t, u], [sx, xx] => match plain (ev sx), plain (ev xx), E.P.underlying t, E.P.underlying u, o.dst with
     | some s, some x, some (.slice e), some du, some d => match szOf E.P e, bytesOf E.P e, zeroIV E.P e with
       | some (sz + 1), some (bytes + 1), some z => if (cellsOf z).length = sz + 1 /\ srcKind du = true then (appendIV h (E.A f d) (sz + 1) (bytes + 1) s x).map fun r => (some (.v r.1), r.2) else none
       | _, _, _ => none
     | _, _, _, _, _ => none
   | _, _ => none
 | .call { callee := .builtin .copy, args, argTypes } =>
   match argTypes.toList, args.toList with
   | t :: _, [sx, xx] => match plain (ev sx), plain (ev xx), E.P.underlying t with
     | some (.hslice id off len z), some x, some (.slice e) => match szOf E.P e, h.get id with
       | some (sz + 1), .cells cs => match srcCells h (sz + 1) x with
         | some (n, xs) => if z = sz + 1 /\ off + len * z <= cs.length then
           some (some (.v (.int .i64 ((min n len : Nat) : Int))), h.set id (.cells (spl cs off (xs.take (min n len * (sz + 1))))))
           else none
         | none => none
       | _, _ => none
     | _, _, _ => none
   | _, _ => none
 | _ => none
def srcA (sz : Nat) (x : IV) : Option (Nat × List IV) :=
 match x with
 | .nilslice => some (0, [])
 | .vslice _ _ len z cs => if z = sz then some (len, cs) else none
 | .str s => if sz = 1 then some (s.length, s.map fun b => .int .u8 b.toNat) else none
 | _ => none
def rowVal (n way len sz : Nat) (cs : List IV) : IV := if way = 0 then .vslice (some n) (len * sz) len sz cs else .hslice n 0 len sz
def rowObj (way len sz : Nat) (cs : List IV) : IObj := if way = 0 then .tip (len * sz) else .cells cs
def aSh (n : Nat) : Option (Option TV × Option IObj) :=
 match o.op with
 | .alloc t => match o.dst with
   | some d => if E.bx f d = 0 then none else (zeroIV E.P t).map fun z => (some (.v (.ptr n 0)), some (.cells (cellsOf z)))
   | none => none
 | .makeSlice t l c => match E.P.underlying t, o.dst, asI (ev l), asI (ev c) with
   | some (.slice e), some d, some l, some c => match szOf E.P e, bytesOf E.P e, zeroIV E.P e with
     | some (sz + 1), some bytes, some z =>
       if 0 <= l /\ l <= c /\ c <= 9223372036854775807 /\ bytes * c <= 140737488355328 /\ (cellsOf z).length = sz + 1 /\ (1 - E.A f d = 0 -> 0 < l.toNat) then
        some (some (.v (rowVal n (1 - E.A f d) l.toNat (sz + 1) (repl l.toNat (cellsOf z)))), some (rowObj (1 - E.A f d) l.toNat (sz + 1) (repl l.toNat (cellsOf z))))
       else none
     | _, _, _ => none
   | _, _, _, _ => none
 | .makeMap _ r => match r with
   | none => some (some (.v (.map n)), some (.map []))
   | some _ => none
 | .call { callee := .builtin .append, args, argTypes } =>
   match argTypes.toList, args.toList with
   | [t, u], [sx, xx] => match plain (ev sx), plain (ev xx), E.P.underlying t, E.P.underlying u, o.dst with
     | some .nilslice, some x, some (.slice e), some du, some d => match szOf E.P e, bytesOf E.P e, zeroIV E.P e with
       | some (sz + 1), some (bytes + 1), some z => if (cellsOf z).length = sz + 1 /\ srcKind du = true then match srcA (sz + 1) x with
         | some (k, xs) => if k = 0 then some (some (.v .nilslice), none)
           else if k * (bytes + 1) <= 140737488355328 then some (some (.v (rowVal n (E.A f d) k (sz + 1) xs)), some (rowObj (E.A f d) k (sz + 1) xs)) else none
         | none => none
         else none
       | _, _, _ => none
     | _, _, _, _, _ => none
   | _, _ => none
 | _ => none
def rdId : Option Nat := match o.op with
 | .load _ a => match ev a with
   | some (.v (.ptr id _)) => some id
   | _ => none
 | .convert _ _ x => match plain (ev x) with
   | some (.hslice id _ _ _) => some id
   | _ => none
 | .slice _ x _ _ _ => match ev x with
   | some (.v (.ptr id _)) => some id
   | _ => none
 | .lookup _ x _ _ => match plain (ev x) with
   | some (.map id) => some id
   | _ => none
 | .call { callee := .builtin .len, args, .. } => match (args[0]?).bind fun x => plain (ev x) with
   | some (.map id) => some id
   | _ => none
 | _ => none
def callSem : Option (FuncId × List IV) :=
 match o.op with
 | .call { callee := .value x, args, .. } => match ev x, plains (args.toList.map ev) with
   | some (.v (.func (.func g) a b)), some xs => some (g, a ++ xs ++ b)
   | _, _ => none
 | _ => none
end
def Fr.put (fr : Fr) (d : Option Tmp) (v : Option TV) : Fr :=
 match d with
 | some t => { fr with tm := fr.tm.set t v }
 | none => fr
def notAt (s : Nat) : TV -> Bool
 | .l s' _ => s' != s
 | _ => true
def Fr.box (fr : Fr) (s : Nat) (cs : List IV) : Fr := { tm := fr.tm.filt (notAt s), lv := fr.lv.set s (some cs) }
def madeAt (E : Env) (f : FuncId) (o : Oper) : Option Nat :=
 match o.op with
 | .alloc _ => match o.dst with
   | some d => if E.bx f d = 0 then some d else none
   | none => none
 | .box _ _ => match o.dst with
   | some d => if E.bx f d = 0 then some d else none
   | none => none
 | _ => none
def Fr.forget (fr : Fr) : List Nat -> Fr
 | [] => fr
 | s :: r => Fr.forget { tm := fr.tm.filt (notAt s), lv := fr.lv.set s none } r
def Fr.start (E : Env) (f : FuncId) (ops : List Oper) (draw : Bool) (fr : Fr) : Fr := if draw then fr.forget (ops.filterMap (madeAt E f)) else fr
structure Met where
 e : Nat := 0
 r : Nat := 0
 s : Nat := 0
 l : Nat := 0
 a : Nat := 0
 deriving Inhabited
inductive Cls where
 | p | l | s | r | e | b | a
 deriving DecidableEq, Inhabited
def isoCls (b : Bool) : Cls := match b with
 | true => .p
 | false => .e
def bit (i : Nat) : Nat := 2 ^ i
def Met.chk (m : Met) : Cls -> Nat
 | .p => 0
 | .b => 0
 | .l => m.s
 | .s => m.s ||| m.l
 | .r => m.e
 | .e => m.e ||| m.r ||| m.a
 | .a => m.e
def Met.add (m : Met) (c : Cls) (i : Nat) : Met :=
 match c with
 | .p => m
 | .b => m
 | .l => { m with l := m.l ||| bit i }
 | .s => { m with s := m.s ||| bit i }
 | .r => { m with r := m.r ||| bit i }
 | .e => { m with e := m.e ||| bit i }
 | .a => { m with a := m.a ||| bit i }
def wantedI (ops : List Oper) (tm : Nat -> Option TV) (o : Oper) : Option Bool :=
 match o.guard with
 | none => some true
 | some (j, b) => match (ops[j]?).bind (·.dst) with
   | some d => match tm d with
     | some (.v (.bool x)) => some (x == b)
     | some .u => some false
     | _ => none
   | none => none
def within (m b : Nat) : Bool := (m &&& b) == m
structure Ef where
 c : Cls
 v : Option TV
 loc : Option (Nat × List IV)
 box : Bool
 h : Heap
mutual
def ivEq : IV -> IV -> Bool
 | .bool a, .bool b => a == b
 | .int k n, .int k' n' => decide (k = k') && n == n'
 | .str a, .str b => a == b
 | .nilptr, .nilptr => true
 | .ptr a b, .ptr c d => Nat.beq a c && Nat.beq b d
 | .nilslice, .nilslice => true
 | .hslice a b c d, .hslice a' b' c' d' => Nat.beq a a' && (Nat.beq b b' && (Nat.beq c c' && Nat.beq d d'))
 | .vslice i e n z cs, .vslice i' e' n' z' cs' => decide (i = i') && (Nat.beq e e' && (Nat.beq n n' && (Nat.beq z z' && ivsEq cs cs')))
 | .nilmap, .nilmap => true
 | .map a, .map b => Nat.beq a b
 | .nilfunc, .nilfunc => true
 | .nilIface, .nilIface => true
 | .agg a, .agg b => ivsEq a b
 | .tuple a, .tuple b => ivsEq a b
 | .vref a o, .vref b o' => Nat.beq o o' && ivsEq a b
 | .func f a c, .func g b d => decide (f = g) && (ivsEq a b && ivsEq c d)
 | .iface t a, .iface u b => decide (t = u) && ivEq a b
 | _, _ => false
def ivsEq : List IV -> List IV -> Bool
 | [], [] => true
 | a :: r, b :: q => ivEq a b && ivsEq r q
 | _, _ => false
end
def tvEq : TV -> TV -> Bool
 | .v a, .v b => ivEq a b
 | _, _ => false
abbrev Pd := List (Nat × (Heap -> Bool))
def weak (m : Met) (pd : Pd) (b : Nat) (e : Ef) : Bool := match e.c with
 | .e => within (m.e ||| m.a) b && pd.all (fun p => b.testBit p.1 || p.2 e.h)
 | _ => false
section
variable (E : Env) (f : FuncId) (cf : FuncId -> List IV -> Heap -> Option (IV × Heap)) (ops : List Oper) (draw : Bool) (bef : Nat -> Nat)
def effW (o : Oper) (ev : Operand -> Option TV) (lv : Nat -> Option (List IV)) (h : Heap) : Option Ef :=
 match pSem E f o ev with
 | some (v, bx) => match bx, o.dst with
   | some cs, some d => if draw then (match lv d with
     | none => some ⟨.b, some v, some (d, cs), false, h⟩
     | some _ => none) else some ⟨.p, some v, some (d, cs), true, h⟩
   | none, _ => some ⟨.p, some v, none, false, h⟩
   | _, _ => none
 | none =>
 match lSem E o ev lv with
 | some v => some ⟨.l, some v, none, false, h⟩
 | none =>
 match sSem E o ev lv with
 | some (s, cs) => some ⟨.s, none, some (s, cs), false, h⟩
 | none =>
 match rSem E o ev h with
 | some v => some ⟨.r, some v, none, false, h⟩
 | none =>
 match eSem E f o ev h with
 | some (v, h') => some ⟨.e, v, none, false, h'⟩
 | none =>
 match callSem o ev with
 | some (g, xs) => match cf g xs h with
   | some (v, h') => some ⟨isoCls (E.iso g), some (.v v), none, false, h'⟩
   | none => none
 | none => none
def eff (o : Oper) (tm : Nat -> Option TV) (lv : Nat -> Option (List IV)) (h : Heap) : Option Ef :=
 match wantedI ops tm o with
 | none => none
 | some false => some ⟨.p, some .u, none, false, h⟩
 | some true => effW E f cf draw o (evOp E tm) lv h
def effA (rs : Option Nat) (o : Oper) (tm : Nat -> Option TV) (lv : Nat -> Option (List IV)) (h : Heap) : Option Ef :=
 match rs with
 | none => eff E f cf ops draw o tm lv h
 | some n => match wantedI ops tm o with
   | none => none
   | some false => some ⟨.p, some .u, none, false, h⟩
   | some true => match aSh E f o (evOp E tm) n with
     | some (v, none) => some ⟨.p, v, none, false, h⟩
     | some (v, some x) => match h.get n with
       | .free => some ⟨.a, v, none, false, h.set n x⟩
       | _ => none
     | none => none
def rsOf : Nat -> List Nat -> Nat -> Option Nat
 | _, [], _ => none
 | k, j :: r, i => match Nat.beq i j with
   | true => some k
   | false => rsOf (k + 1) r i
def rdOk (al : List Nat) (rs : Nat -> Option Nat) (m : Met) (b : Nat) (id : Option Nat) (c : Cls) : Bool := match c with
 | .r => al.all fun j => b.testBit j || (!(m.a.testBit j) || (match rs j, id with
   | some n, some k => !(Nat.beq n k)
   | _, _ => true))
 | _ => true
def okB (al : List Nat) (rs : Nat -> Option Nat) (m : Met) (pd : Pd) (b : Nat) (id : Option Nat) (e : Ef) : Bool := (within (m.chk e.c) b || weak m pd b e) && rdOk al rs m b id e.c
def Fr.app (fr : Fr) (d : Option Tmp) (e : Ef) : Fr :=
 match e.loc with
 | some (s, cs) => if e.box then (fr.box s cs).put d e.v else { fr.put d e.v with lv := fr.lv.set s (some cs) }
 | none => fr.put d e.v
def pdAdd (o : Oper) (ev : Operand -> Option TV) (e : Ef) (i : Nat) (pd : Pd) : Pd := match e.c with
 | .r => (i, fun h2 => match rSem E o ev h2, e.v with
   | some v2, some v => tvEq v2 v
   | _, _ => false) :: pd
 | _ => pd
def runOps (al : List Nat) (rs : Nat -> Option Nat) : List (Oper × Nat) -> Met -> Pd -> Fr -> Heap -> Option (Fr × Heap)
 | [], _, _, fr, h => some (fr, h)
 | (o, i) :: r, m, pd, fr, h => match effA E f cf ops draw (rs i) o fr.tm.get fr.lv.get h with
   | some e => if !draw || okB al rs m pd (bef i) (rdId o (evOp E fr.tm.get)) e then runOps al rs r (m.add e.c i) (pdAdd E o (evOp E fr.tm.get) e i pd) (fr.app o.dst e) e.h else none
   | none => none
end
inductive Ex where
 | normal
 | exit (id : Nat)
 | ret
 deriving DecidableEq, Inhabited
def runLoop (body : Fr -> Heap -> Option (Ex × Fr × Heap)) : Nat -> Fr -> Heap -> Option (Ex × Fr × Heap)
 | 0, _, _ => none
 | n + 1, fr, h => match body fr h with
   | some (.normal, fr', h') => runLoop body n fr' h'
   | r => r
def befOf (ops : Array Oper) : Nat -> Nat := fun i => (Region.before ops).getD i 0
def ahead (ops : List Oper) (p q : Oper × Nat) : Bool := Nat.blt p.2 q.2 || (!Nat.beq p.2 q.2 && (p.1.after.toList.all fun e => !Nat.beq e.on q.2) && Oper.apart ops.toArray p.1 q.1)
def aheadL (ops : List Oper) : List (Oper × Nat) -> Bool
 | [] => true
 | p :: r => r.all (ahead ops p) && aheadL ops r
def pickL (ops : List Oper) (l : List Nat) : List (Oper × Nat) := l.filterMap fun i => ops[i]?.map fun o => (o, i)
def ordL (l : List Nat) (draw : Bool) (ops : List Oper) : List (Oper × Nat) := match draw, l with
 | true, i :: r => match Nat.ble (i :: r).length ops.length && (List.range ops.length).all (fun j => (i :: r).contains j) && aheadL ops (pickL ops (i :: r)) with
   | true => pickL ops (i :: r)
   | false => ops.zipIdx
 | _, _ => ops.zipIdx
section
variable (E : Env) (f : FuncId) (cf : FuncId -> List IV -> Heap -> Option (IV × Heap)) (n : Nat)
def runC : Code -> Fr -> Heap -> Option (Ex × Fr × Heap)
 | .skip, fr, h => some (.normal, fr, h)
 | .region id ops draw, fr, h => match runOps E f cf ops.toList draw (befOf ops) (E.an f id) (rsOf h.next (E.an f id)) (ordL (E.od f id) draw ops.toList) {} [] (fr.start E f ops.toList draw) (h.reserve (E.an f id).length) with
   | some (fr', h') => some (.normal, fr', h')
   | none => none
 | .seq a b, fr, h => match runC a fr h with
   | some (.normal, fr', h') => runC b fr' h'
   | r => r
 | .cond c a b, fr, h => match evOp E fr.tm.get c with
   | some (.v (.bool true)) => runC a fr h
   | some (.v (.bool false)) => runC b fr h
   | _ => none
 | .block id c, fr, h => match runC c fr h with
   | some (.exit id', fr', h') => if id' = id then some (.normal, fr', h') else some (.exit id', fr', h')
   | r => r
 | .loop c, fr, h => runLoop (runC c) n fr h
 | .exit id, fr, h => some (.exit id, fr, h)
 | .scope c, fr, h => runC c fr h
 | .ret, fr, h => some (.ret, fr, h)
 | _, _, _ => none
end
def resultI (P : Program) (fr : Fr) (h : Heap) : ResultVar -> Option IV
 | .tmp t => plain (fr.tm.get t)
 | .cell a t => match fr.tm.get a with
   | some (.l s off) => match fr.lv.get s with
     | some cs => rdVar P t cs off
     | none => none
   | some (.v (.ptr id off)) => match h.get id with
     | .cells cs => rdVar P t cs off
     | _ => none
   | _ => none
def resultsI (P : Program) (fr : Fr) (h : Heap) : List ResultVar -> Option (List IV)
 | [] => some []
 | r :: rs => match resultI P fr h r, resultsI P fr h rs with
   | some v, some vs => some (v :: vs)
   | _, _ => none
def tupleOf : List IV -> IV
 | [v] => v
 | vs => .tuple vs
def frameOf : List IV -> Nat -> PT TV -> PT TV
 | [], _, t => t
 | v :: r, i, t => frameOf r (i + 1) (t.set i (some (.v v)))
def frz1 (h : Heap) : IV -> IV × Heap
 | .hslice id off len sz => match h.get id with
   | .cells cs => if 0 < sz /\ off + len * sz <= cs.length then (.vslice none 0 len sz ((cs.drop off).take (len * sz)), h.set id .dead) else (.hslice id off len sz, h)
   | _ => (.hslice id off len sz, h)
 | v => (v, h)
def frzL (g : Heap -> IV -> IV × Heap) (h : Heap) : List IV -> List IV × Heap
 | [] => ([], h)
 | v :: r =>
   let x := g h v
   let y := frzL g x.2 r
   (x.1 :: y.1, y.2)
def frz2 (h : Heap) : IV -> IV × Heap
 | .agg cs => let x := frzL frz1 h cs; (.agg x.1, x.2)
 | v => frz1 h v
def frz3 (h : Heap) : IV -> IV × Heap
 | .tuple vs => let x := frzL frz2 h vs; (.tuple x.1, x.2)
 | v => frz2 h v
def giveOut (E : Env) (f : FuncId) (v : IV) (h : Heap) : IV × Heap := if E.fz f then frz3 h v else (v, h)
def bodyRun (E : Env) (f : FuncId) (cf : FuncId -> List IV -> Heap -> Option (IV × Heap)) (n : Nat) (rs : List ResultVar) (c : Code) (args : List IV) (h : Heap) : Option (List IV × Heap) :=
 match runC E f cf n c ⟨frameOf args 0 .nil, .nil⟩ h with
 | some (.normal, fr, h') => (resultsI E.P fr h' rs).map (·, h')
 | some (.ret, fr, h') => (resultsI E.P fr h' rs).map (·, h')
 | _ => none
def frzAll (E : Env) (f : FuncId) (vs : List IV) (h : Heap) : List IV := if E.fz f then (frzL frz2 h vs).1 else vs
def isoOut (E : Env) (f : FuncId) (ts : List TypeId) (vs : List IV) (h : Heap) : Option IV :=
 let ws := nrmVs E.P ts (frzAll E f vs h)
 if pureL ws then some (tupleOf ws) else none
def runF (E : Env) : Nat -> FuncId -> List IV -> Heap -> Option (IV × Heap)
 | 0, _, _, _ => none
 | n + 1, f, args, h =>
   match E.P.funcs[f]? with
   | some fn => match fn.body with
     | some c => match E.iso f with
       | false => match bodyRun E f (runF E n) n fn.results.toList c args h with
         | some (vs, h') => some (giveOut E f (tupleOf vs) h')
         | none => none
       | true => if pureL (nrmVs E.P fn.params.toList args) then match bodyRun E f (runF E n) n fn.results.toList c (nrmVs E.P fn.params.toList args) Heap.empty with
         | some (vs, h') => (isoOut E f fn.resultTypes.toList vs h').map (·, h)
         | none => none
         else none
     | none => none
   | none => none
theorem runF_succ (E : Env) (n : Nat) (f : FuncId) (args : List IV) (h : Heap) : runF E (n + 1) f args h =
  match E.P.funcs[f]? with
  | some fn => match fn.body with
    | some c => match E.iso f with
      | false => match bodyRun E f (runF E n) n fn.results.toList c args h with
        | some (vs, h') => some (giveOut E f (tupleOf vs) h')
        | none => none
      | true => if pureL (nrmVs E.P fn.params.toList args) then match bodyRun E f (runF E n) n fn.results.toList c (nrmVs E.P fn.params.toList args) Heap.empty with
        | some (vs, h') => (isoOut E f fn.resultTypes.toList vs h').map (·, h)
        | none => none
        else none
    | none => none
  | none => none := rfl
end Go.Pv
