import Derived.Test.YtmfnadojephcpaaPvW
set_option linter.unusedVariables false
namespace Go.Pv
structure GF where
 tm : PT (Option TV)
 lv : PT (Option (List IV))
 b : FF
def FF.none : FF := ⟨fun _ => Option.none, fun _ => Option.none⟩
def GF.tmg (F : GF) (k : Nat) : Option TV := match F.tm.get k with
 | some x => x
 | none => F.b.tm k
def GF.lvg (F : GF) (k : Nat) : Option (List IV) := match F.lv.get k with
 | some x => x
 | none => F.b.lv k
def GF.ff (F : GF) : FF := ⟨F.tmg, F.lvg⟩
def GF.put (F : GF) (d : Option Tmp) (v : Option TV) : GF := match d with
 | some t => { F with tm := F.tm.set t (some v) }
 | none => F
def GF.lset (F : GF) (s : Nat) (cs : Option (List IV)) : GF := { F with lv := F.lv.set s (some cs) }
def keepNot (s : Nat) : Option TV -> Option TV
 | some y => if notAt s y then some y else none
 | none => none
def PT.mapv {α : Type} (g : α -> α) : PT α -> PT α
 | .nil => .nil
 | .node l v r => .node (l.mapv g) (match v with | some x => some (g x) | none => none) (r.mapv g)
def GF.clr (F : GF) (s : Nat) : GF := { F with tm := F.tm.mapv (keepNot s), b := F.b.clr s }
def GF.app (F : GF) (d : Option Tmp) (e : Ef) : GF := match e.loc with
 | some (s, cs) => match e.box with
   | true => ((F.clr s).lset s (some cs)).put d e.v
   | false => (F.put d e.v).lset s (some cs)
 | none => F.put d e.v
def GF.forget (F : GF) : List Nat -> GF
 | [] => F
 | s :: r => GF.forget ((F.clr s).lset s none) r
def GF.start (E : Env) (f : FuncId) (ops : List Oper) (draw : Bool) (F : GF) : GF := match draw with
 | true => F.forget (ops.filterMap (madeAt E f))
 | false => F
structure Sp where
 br : Bool -> Prop -> Prop -> Prop
 need : Bool -> Prop -> Prop
 ldI : IntKind -> List IV -> Nat -> (Int -> Prop) -> Prop
 ldB : List IV -> Nat -> (Bool -> Prop) -> Prop
 ldS : List IV -> Nat -> (List UInt8 -> Prop) -> Prop
 ldV : Nat -> List IV -> Nat -> (Option Nat -> Nat -> Nat -> List IV -> Prop) -> Prop
 ldA : List IV -> Nat -> (IV -> Prop) -> Prop
 chr : List UInt8 -> Nat -> (Int -> Prop) -> Prop
 hget : Heap -> Nat -> (List IV -> Prop) -> Prop
 tip : Heap -> Nat -> (Nat -> Prop) -> Prop
 call : FuncId -> List IV -> Heap -> (IV -> Heap -> Prop) -> Prop
 ldNV : Nat -> List IV -> Nat -> Prop -> (Nat -> Nat -> Nat -> List IV -> Prop) -> Prop
 ldNH : Nat -> List IV -> Nat -> Prop -> (Nat -> Nat -> Nat -> Prop) -> Prop
 mlook : Heap -> Nat -> TypeDesc -> IV -> (List IV -> Prop) -> Prop -> Prop
 mupd : Heap -> Nat -> TypeDesc -> IV -> IV -> (List (IV × IV) -> Prop) -> Prop
 byt : List IV -> (List UInt8 -> Prop) -> Prop
 ldM : List IV -> Nat -> (Nat -> Prop) -> Prop
 ldP : List IV -> Nat -> (Nat -> Nat -> Prop) -> Prop
 app : Heap -> Nat -> Nat -> IV -> Nat -> List IV -> (Nat -> Nat -> Nat -> List IV -> Heap -> Prop) -> Prop
 fre : Heap -> Nat -> Prop -> Prop
def brS (b : Bool) (A B : Prop) : Prop := match b with
 | true => A
 | false => B
def needS (b : Bool) (A : Prop) : Prop := match b with
 | true => A
 | false => False
def ldIS (k : IntKind) (cs : List IV) (off : Nat) (K : Int -> Prop) : Prop := match cs[off]? with
 | some (.int k' n) => if k' = k then K n else False
 | _ => False
def ldBS (cs : List IV) (off : Nat) (K : Bool -> Prop) : Prop := match cs[off]? with
 | some (.bool b) => K b
 | _ => False
def ldSS (cs : List IV) (off : Nat) (K : List UInt8 -> Prop) : Prop := match cs[off]? with
 | some (.str b) => K b
 | _ => False
def ldVS (sz : Nat) (cs : List IV) (off : Nat) (K : Option Nat -> Nat -> Nat -> List IV -> Prop) : Prop := match cs[off]? with
 | some (.vslice id e len z cs') => if z = sz then K id e len cs' else False
 | _ => False
def ldAS (cs : List IV) (off : Nat) (K : IV -> Prop) : Prop := match cs[off]? with
 | some v => K v
 | none => False
def chrS (s : List UInt8) (i : Nat) (K : Int -> Prop) : Prop := match s[i]? with
 | some b => K b.toNat
 | none => False
def hgetS (h : Heap) (id : Nat) (K : List IV -> Prop) : Prop := match h.get id with
 | .cells cs => K cs
 | _ => False
def tipS (h : Heap) (id : Nat) (K : Nat -> Prop) : Prop := match h.get id with
 | .tip m => K m
 | _ => False
def ldNVS (sz : Nat) (cs : List IV) (off : Nat) (A : Prop) (K : Nat -> Nat -> Nat -> List IV -> Prop) : Prop := match cs[off]? with
 | some .nilslice => A
 | some (.vslice (some id) e len z cs') => if z = sz then K id e len cs' else False
 | _ => False
def ldNHS (sz : Nat) (cs : List IV) (off : Nat) (A : Prop) (K : Nat -> Nat -> Nat -> Prop) : Prop := match cs[off]? with
 | some .nilslice => A
 | some (.hslice id o len z) => if z = sz then K id o len else False
 | _ => False
def mlookS (h : Heap) (id : Nat) (d : TypeDesc) (key : IV) (K : List IV -> Prop) (A : Prop) : Prop := match h.get id with
 | .map es => match findIV d key es with
   | some (some v) => K [v]
   | some none => A
   | none => False
 | _ => False
def mupdS (h : Heap) (id : Nat) (d : TypeDesc) (key v : IV) (K : List (IV × IV) -> Prop) : Prop := match h.get id with
 | .map es => match updIV d key v es with
   | some es' => K es'
   | none => False
 | _ => False
def bytS (cs : List IV) (K : List UInt8 -> Prop) : Prop := match bytesIV cs with
 | some b => K b
 | none => False
def ldMS (cs : List IV) (off : Nat) (K : Nat -> Prop) : Prop := match cs[off]? with
 | some (.map id) => K id
 | _ => False
def ldPS (cs : List IV) (off : Nat) (K : Nat -> Nat -> Prop) : Prop := match cs[off]? with
 | some (.ptr id o) => K id o
 | _ => False
def appGS (h : Heap) (sz bytes : Nat) (s : IV) (n : Nat) (xs : List IV) (K : Nat -> Nat -> Nat -> List IV -> Heap -> Prop) : Prop := match s with
 | .nilslice => n * bytes <= 140737488355328 /\ K h.next (n * sz) n xs (h.push (.tip (n * sz)))
 | .vslice none 1 len z cs => (z = sz /\ (len + n) * bytes <= 140737488355328) /\ K h.next ((len + n) * sz) (len + n) (cs ++ xs) (h.push (.tip ((len + n) * sz)))
 | .vslice (some id) e len z cs => (z = sz /\ (len + n) * bytes <= 140737488355328 /\ h.get id = .tip e) /\ K id (e + n * sz) (len + n) (cs ++ xs) (h.set id (.tip (e + n * sz)))
 | _ => False
def freS (h : Heap) (n : Nat) (A : Prop) : Prop := match h.get n with
 | .free => A
 | _ => False
def stdS (C : FuncId -> List IV -> Heap -> (IV -> Heap -> Prop) -> Prop) : Sp where
 br := brS
 need := needS
 ldI := ldIS
 ldB := ldBS
 ldS := ldSS
 ldV := ldVS
 ldA := ldAS
 chr := chrS
 hget := hgetS
 tip := tipS
 call := C
 ldNV := ldNVS
 ldNH := ldNHS
 mlook := mlookS
 mupd := mupdS
 byt := bytS
 ldM := ldMS
 ldP := ldPS
 app := appGS
 fre := freS
structure Inv1 where
 X : Type
 slots : X -> List (Nat × TV)
 locs : X -> List (Nat × List IV)
 hp : X -> Heap
 cond : X -> Prop
 meas : X -> Nat
 get : GF -> Heap -> Option X
def tmOf : List (Nat × TV) -> PT (Option TV)
 | [] => .nil
 | (s, v) :: r => (tmOf r).set s (some (some v))
def lvOf : List (Nat × List IV) -> PT (Option (List IV))
 | [] => .nil
 | (s, v) :: r => (lvOf r).set s (some (some v))
def agreeT (F : GF) : List (Nat × TV) -> Prop -> Prop
 | [], A => A
 | (s, v) :: r, A => F.tmg s = some v /\ agreeT F r A
def agreeL (F : GF) : List (Nat × List IV) -> Prop -> Prop
 | [], A => A
 | (s, v) :: r, A => F.lvg s = some v /\ agreeL F r A
inductive Inv' where
 | one (v : Inv1)
 | ex (v : Inv1)
 | or (a b : Inv')
def Inv'.J : Inv' -> GF -> Heap -> (Nat -> Prop) -> Prop
 | .one v, F, h, P => match v.get F h with
   | some x => agreeT F (v.slots x) (agreeL F (v.locs x) (h = v.hp x /\ v.cond x /\ P (v.meas x)))
   | none => False
 | .ex v, F, h, P => ∃ x : v.X, agreeT F (v.slots x) (agreeL F (v.locs x) (h = v.hp x /\ v.cond x /\ P (v.meas x)))
 | .or a b, F, h, P => a.J F h P \/ b.J F h P
def Inv'.I : Inv' -> (GF -> Heap -> Nat -> Prop) -> Prop
 | .one v, K => ∀ (x : v.X) (b : FF), v.cond x -> K ⟨tmOf (v.slots x), lvOf (v.locs x), b⟩ (v.hp x) (v.meas x)
 | .ex v, K => ∀ (x : v.X) (b : FF), v.cond x -> K ⟨tmOf (v.slots x), lvOf (v.locs x), b⟩ (v.hp x) (v.meas x)
 | .or a b, K => a.I K /\ b.I K
section
variable (S : Sp) (E : Env) (f : FuncId)
def ldC (ck : CK) (cs : List IV) (off : Nat) (K : IV -> Prop) : Prop := match ck with
 | .int k => S.ldI k cs off fun n => K (.int k n)
 | .bool => S.ldB cs off fun b => K (.bool b)
 | .str => S.ldS cs off fun s => K (.str s)
 | .slc sz => S.ldV sz cs off fun id e len c => K (.vslice id e len sz c)
 | .any => S.ldA cs off K
def ldCs : List CK -> List IV -> Nat -> (List IV -> Prop) -> Prop
 | [], _, _, K => K []
 | ck :: r, cs, off, K => ldC S ck cs off fun v => ldCs r cs (off + 1) fun vs => K (v :: vs)
def ldK (t : TypeId) (cs : List IV) (off : Nat) (K : IV -> Prop) : Prop := match shapeOf E.P t with
 | some (false, _) => ldC S (ckOf E.P t) cs off K
 | some (true, n + 1) => match Nat.beq (cksOf E.P 8 t).length (n + 1) with
   | true => ldCs S (cksOf E.P 8 t) cs off fun vs => K (.agg vs)
   | false => False
 | _ => False
def anys : Nat -> List CK
 | 0 => []
 | n + 1 => .any :: anys n
def ldW (d : Option Tmp) (t : TypeId) (cs : List IV) (off : Nat) (K : IV -> Prop) : Prop := match d with
 | some s => match E.ld f s with
   | true => match shapeOf E.P t with
     | some (false, _) => S.ldA cs off K
     | some (true, n + 1) => ldCs S (anys (n + 1)) cs off fun vs => K (.agg vs)
     | _ => False
   | false => match E.ln f s with
     | 0 => ldK S E t cs off K
     | 1 => match shapeOf E.P t, ckOf E.P t with
       | some (false, _), .slc sz => S.ldNV sz cs off (K .nilslice) fun id e len c => K (.vslice (some id) e len sz c)
       | _, _ => False
     | 3 => match shapeOf E.P t with
       | some (false, _) => S.ldM cs off fun id => K (.map id)
       | _ => False
     | 4 => match shapeOf E.P t with
       | some (false, _) => S.ldP cs off fun id o => K (.ptr id o)
       | _ => False
     | 5 => match shapeOf E.P t, ckOf E.P t with
       | some (false, _), .slc sz => S.ldNH sz cs off False fun id o len => K (.hslice id o len sz)
       | _, _ => False
     | _ => match shapeOf E.P t, ckOf E.P t with
       | some (false, _), .slc sz => S.ldNH sz cs off (K .nilslice) fun id o len => K (.hslice id o len sz)
       | _, _ => False
 | none => ldK S E t cs off K
def stK (t : TypeId) (cs : List IV) (off : Nat) (v : IV) (K : List IV -> Prop) : Prop := match szOf E.P t, notTup v with
 | some n, true => match Nat.beq (cellsOf v).length n with
   | true => S.need (Nat.ble (off + n) cs.length) (K (cs.take off ++ cellsOf v ++ cs.drop (off + n)))
   | false => False
 | _, _ => False
def fieldsEqS (P : Program) : List Field -> List IV -> List IV -> Option Bool
 | [], _, _ => some true
 | f :: fs, xs, ys =>
   if f.name == "_" then none else
   match P.underlying f.type, xs[f.offset]?, ys[f.offset]? with
   | some d, some x, some y => match scalarEq d x y, fieldsEqS P fs xs ys with
     | some b, some c => some (b && c)
     | _, _ => none
   | _, _, _ => none
def eqAgg (t : TypeId) (xs ys : List IV) : Option Bool := match E.P.underlying t with
 | some (.struct fs) => match E.P.stoodInHeld t || E.P.eqGuardType E.P.depth t with
   | true => none
   | false => fieldsEqS E.P fs.toList xs ys
 | _ => none
def binK (op : BinOp) (c : Bool) (t : TypeId) (a b : IV) (K : IV -> Prop) : Prop := match a, b with
 | .int k x, .int k' y => match op with
   | .quo => if k = k' then S.need (!(y == 0)) (K (.int k (k.wrap (x.tdiv y)))) else False
   | .rem => if k = k' then S.need (!(y == 0)) (K (.int k (x.tmod y))) else False
   | .shl => S.need (decide (0 <= y)) (K (.int k (k.wrap (x * 2 ^ (min y.toNat k.bits)))))
   | .shr => S.need (decide (0 <= y)) (K (.int k (x.fdiv (2 ^ (min y.toNat k.bits)))))
   | op => match (if k = k' then intBin op k x y else none) with
     | some v => K v
     | none => False
 | .str x, .str y => match op with
   | .add => S.need (Nat.ble (x.length + y.length) 9223372036854775807) (K (.str (x ++ y)))
   | op => match strBin op x y with
     | some v => K v
     | none => False
 | .agg xs, .agg ys => match op with
   | .eql => match eqAgg E t xs ys with
     | some b => K (.bool b)
     | none => False
   | .neq => match eqAgg E t xs ys with
     | some b => K (.bool (!b))
     | none => False
   | _ => False
 | x, y => match binIV E.P op c t x y with
   | some v => K v
   | none => False
def cutK (len : Nat) (lo hi : Option (Option TV)) (K : Int -> Int -> Prop) : Prop :=
 match (match lo with | none => some (0 : Int) | some x => asI x), (match hi with | none => some (len : Int) | some x => asI x) with
 | some l, some h => S.need (decide (0 <= l) && (decide (l <= h) && decide (h <= len))) (K l h)
 | _, _ => False
def noCf : FuncId -> List IV -> Heap -> Option (IV × Heap) := fun _ _ _ => none
def elseK (draw : Bool) (o : Oper) (F : GF) (h : Heap) (K : GF -> Ef -> Prop) : Prop := match effW E f noCf draw o (evOp E F.tmg) F.lvg h with
 | some e => K F e
 | none => False
def bNow (c : Operand) (F : GF) (x : Bool) : GF := match c with
 | .tmp t => F.put (some t) (some (.v (.bool x)))
 | _ => F
def srcK (h : Heap) (sz : Nat) (x : IV) (K : Nat -> List IV -> Prop) : Prop := match x with
 | .nilslice => K 0 []
 | .vslice _ _ len z cs => match Nat.beq z sz with
   | true => K len cs
   | false => False
 | .hslice id off len z => match Nat.beq z sz with
   | true => S.hget h id fun cs => S.need (Nat.ble (off + len * sz) cs.length) (K len ((cs.drop off).take (len * sz)))
   | false => False
 | .str s => match Nat.beq sz 1 with
   | true => K s.length (s.map fun b => .int .u8 b.toNat)
   | false => False
 | _ => False
def appK (h : Heap) (way sz bytes : Nat) (s x : IV) (K : IV -> Heap -> Prop) : Prop := srcK S h sz x fun n xs =>
 S.br (Nat.beq n 0)
  (match s with
   | .nilslice => K .nilslice h
   | .vslice id e len z cs => match Nat.beq z sz with
     | true => K (.vslice id e len z cs) h
     | false => False
   | .hslice id off len z => match Nat.beq z sz with
     | true => K (.hslice id off len z) h
     | false => False
   | _ => False)
  (match s with
   | .nilslice => S.need (Nat.ble (n * bytes) 140737488355328) (K (newRow h way n sz xs).1 (newRow h way n sz xs).2)
   | .vslice none 1 len z cs => match Nat.beq z sz with
     | true => S.need (Nat.ble ((len + n) * bytes) 140737488355328) (K (newRow h way (len + n) sz (cs ++ xs)).1 (newRow h way (len + n) sz (cs ++ xs)).2)
     | false => False
   | .vslice (some id) e len z cs => match Nat.beq z sz with
     | true => S.tip h id fun m => S.need (Nat.beq m e && Nat.ble ((len + n) * bytes) 140737488355328) (K (.vslice (some id) (e + n * sz) (len + n) sz (cs ++ xs)) (h.set id (.tip (e + n * sz))))
     | false => False
   | .hslice id off len z => match Nat.beq z sz with
     | true => S.hget h id fun cs => S.need (Nat.beq off 0 && (Nat.ble (len * sz) cs.length && Nat.ble ((len + n) * bytes) 140737488355328)) (K (.hslice h.next 0 (len + n) sz) ((h.set id .dead).push (.cells (cs.take (len * sz) ++ xs))))
     | false => False
   | _ => False)
def appGK (h : Heap) (way sz bytes : Nat) (s x : IV) (K : IV -> Heap -> Prop) : Prop := match Nat.beq way 0 with
 | true => srcK S h sz x fun n xs => match n with
   | 0 => False
   | n + 1 => S.app h sz bytes s (n + 1) xs fun id e len cs h2 => K (.vslice (some id) e len sz cs) h2
 | false => False
def callArgs (g : FuncId) (xs : List IV) : List IV := match E.iso g with
 | true => match E.P.funcs[g]? with
   | some fn => nrmVs E.P fn.params.toList xs
   | none => xs
 | false => xs
def opW (draw : Bool) (o : Oper) (F : GF) (h : Heap) (K : GF -> Ef -> Prop) : Prop := match o.op with
 | .pick c a b => match evOp E F.tmg c with
   | some (.v (.bool x)) => S.br x
     (match evOp E F.tmg a with | some v => K (bNow c F true) ⟨.p, some v, none, false, h⟩ | none => False)
     (match evOp E F.tmg b with | some v => K (bNow c F false) ⟨.p, some v, none, false, h⟩ | none => False)
   | _ => False
 | .binOp op t x y _ => match plain (evOp E F.tmg x), plain (evOp E F.tmg y) with
   | some a, some b => binK S E op (isConst x || isConst y) t a b fun v => K F ⟨.p, some (.v v), none, false, h⟩
   | _, _ => False
 | .load t a => match evOp E F.tmg a with
   | some (.l s off) => match F.lvg s with
     | some cs => ldW S E f o.dst t cs off fun v => K F ⟨.l, some (.v v), none, false, h⟩
     | none => False
   | some (.v (.vref cs off)) => ldW S E f o.dst t cs off fun v => K F ⟨.p, some (.v v), none, false, h⟩
   | some (.v (.ptr id off)) => S.hget h id fun cs => ldW S E f o.dst t cs off fun v => K F ⟨.r, some (.v v), none, false, h⟩
   | _ => False
 | .store t a x => match evOp E F.tmg a, plain (evOp E F.tmg x) with
   | some (.l s off), some v => match F.lvg s with
     | some cs => stK S E t cs off v fun cs' => K F ⟨.s, none, some (s, cs'), false, h⟩
     | none => False
   | some (.v (.ptr id off)), some v => S.hget h id fun cs => stK S E t cs off v fun cs' => K F ⟨.e, none, none, false, h.set id (.cells cs')⟩
   | _, _ => False
 | .indexAddr t x ix => match asI (evOp E F.tmg ix), E.P.underlying t with
   | some i, some (.array n e) => match szOf E.P e, evOp E F.tmg x with
     | some sz, some a => S.need (decide (0 <= i) && decide (i < n)) (match addrPlus (i.toNat * sz) a with | some v => K F ⟨.p, some v, none, false, h⟩ | none => False)
     | _, _ => False
   | some i, some (.slice e) => match szOf E.P e, plain (evOp E F.tmg x) with
     | some sz, some (.vslice _ _ len z cs) => match Nat.beq z sz with
       | true => S.need (decide (0 <= i) && decide (i < len)) (K F ⟨.p, some (.v (.vref cs (i.toNat * sz))), none, false, h⟩)
       | false => False
     | some sz, some (.hslice id off len z) => match Nat.beq z sz with
       | true => S.need (decide (0 <= i) && decide (i < len)) (K F ⟨.p, some (.v (.ptr id (off + i.toNat * sz))), none, false, h⟩)
       | false => False
     | _, _ => False
   | _, _ => False
 | .index t x ix => match asI (evOp E F.tmg ix), E.P.underlying t, plain (evOp E F.tmg x) with
   | some i, some (.array n e), some (.agg cs) => match szOf E.P e with
     | some sz => S.need (decide (0 <= i) && decide (i < n)) (ldK S E e cs (i.toNat * sz) fun v => K F ⟨.p, some (.v v), none, false, h⟩)
     | none => False
   | some i, some .string, some (.str s) => S.need (decide (0 <= i)) (S.chr s i.toNat fun b => K F ⟨.p, some (.v (.int .u8 b)), none, false, h⟩)
   | _, _, _ => False
 | .slice t x lo hi mx => match mx, E.P.underlying t, plain (evOp E F.tmg x) with
   | none, some .string, some (.str s) => cutK S s.length (lo.map (evOp E F.tmg)) (hi.map (evOp E F.tmg)) fun l h' => K F ⟨.p, some (.v (.str ((s.drop l.toNat).take (h'.toNat - l.toNat)))), none, false, h⟩
   | none, some (.slice e), some (.vslice id en len z cs) => match szOf E.P e with
     | some sz => match Nat.beq z sz with
       | true => cutK S len (lo.map (evOp E F.tmg)) (hi.map (evOp E F.tmg)) fun l h' =>
         K F ⟨.p, some (.v (.vslice id (en - (len - h'.toNat) * sz) (h'.toNat - l.toNat) sz ((cs.drop (l.toNat * sz)).take ((h'.toNat - l.toNat) * sz)))), none, false, h⟩
       | false => False
     | none => False
   | none, some (.slice e), some (.hslice id off len z) => match szOf E.P e with
     | some sz => match Nat.beq z sz with
       | true => cutK S len (lo.map (evOp E F.tmg)) (hi.map (evOp E F.tmg)) fun l h' => K F ⟨.p, some (.v (.hslice id (off + l.toNat * sz) (h'.toNat - l.toNat) sz)), none, false, h⟩
       | false => False
     | none => False
   | none, some (.array n e), some (.ptr id off) => match szOf E.P e with
     | some (sz + 1) => S.hget h id fun cs => S.need (Nat.ble (off + n * (sz + 1)) cs.length) (cutK S n (lo.map (evOp E F.tmg)) (hi.map (evOp E F.tmg)) fun l h' =>
       K F ⟨.r, some (.v (.hslice id (off + l.toNat * (sz + 1)) (h'.toNat - l.toNat) (sz + 1))), none, false, h⟩)
     | _ => False
   | _, _, _ => elseK E f draw o F h K
 | .makeSlice t l c => match E.P.underlying t, o.dst, asI (evOp E F.tmg l), asI (evOp E F.tmg c) with
   | some (.slice e), some d, some l, some c => match szOf E.P e, bytesOf E.P e, zeroIV E.P e with
     | some (sz + 1), some bytes, some z => match Nat.beq (cellsOf z).length (sz + 1) with
       | true => S.need (decide (0 <= l) && (decide (l <= c) && (decide (c <= 9223372036854775807) && decide (bytes * c <= 140737488355328))))
         (K F ⟨.e, some (.v (newRow h (1 - E.A f d) l.toNat (sz + 1) (repl l.toNat (cellsOf z))).1), none, false, (newRow h (1 - E.A f d) l.toNat (sz + 1) (repl l.toNat (cellsOf z))).2⟩)
       | false => False
     | _, _, _ => False
   | _, _, _, _ => False
 | .call { callee := .builtin .append, args, argTypes } => match argTypes.toList, args.toList with
   | [t, u], [sx, xx] => match plain (evOp E F.tmg sx), plain (evOp E F.tmg xx), E.P.underlying t, E.P.underlying u, o.dst with
     | some s, some x, some (.slice e), some du, some d => match szOf E.P e, bytesOf E.P e, zeroIV E.P e with
       | some (sz + 1), some (bytes + 1), some z => match Nat.beq (cellsOf z).length (sz + 1) && srcKind du with
         | true => match Nat.beq (E.ln f d) 9 with
           | true => appGK S h (E.A f d) (sz + 1) (bytes + 1) s x fun v h' => K F ⟨.e, some (.v v), none, false, h'⟩
           | false => appK S h (E.A f d) (sz + 1) (bytes + 1) s x fun v h' => K F ⟨.e, some (.v v), none, false, h'⟩
         | false => False
       | _, _, _ => False
     | _, _, _, _, _ => False
   | _, _ => False
 | .call { callee := .builtin .copy, args, argTypes } => match argTypes.toList, args.toList with
   | t :: _, [sx, xx] => match plain (evOp E F.tmg sx), plain (evOp E F.tmg xx), E.P.underlying t with
     | some (.hslice id off len z), some x, some (.slice e) => match szOf E.P e with
       | some (sz + 1) => match Nat.beq z (sz + 1) with
         | true => srcK S h (sz + 1) x fun n xs => S.hget h id fun cs => S.need (Nat.ble (off + len * z) cs.length)
           (K F ⟨.e, some (.v (.int .i64 ((min n len : Nat) : Int))), none, false, h.set id (.cells (spl cs off (xs.take (min n len * (sz + 1)))))⟩)
         | false => False
       | _ => False
     | _, _, _ => False
   | _, _ => False
 | .call { callee := .value x, args, .. } => match evOp E F.tmg x, plains (args.toList.map (evOp E F.tmg)) with
   | some (.v (.func (.func g) a b)), some xs => S.call g (callArgs E g (a ++ xs ++ b)) h fun v h' => K F ⟨isoCls (E.iso g), some (.v v), none, false, h'⟩
   | _, _ => False
 | .lookup t x k ok => match E.P.underlying t, plain (evOp E F.tmg x), plain (evOp E F.tmg k) with
   | some (.map kt et), some (.map id), some key => match E.P.underlying kt, zeroIV E.P et with
     | some d, some z => match keyFits d key with
       | true => S.mlook h id d key (fun r => ldC S (ckOf E.P et) r 0 fun v => K F ⟨.r, some (.v (match ok with | true => .tuple [v, .bool true] | false => v)), none, false, h⟩)
         (K F ⟨.r, some (.v (match ok with | true => .tuple [z, .bool false] | false => z)), none, false, h⟩)
       | false => False
     | _, _ => False
   | _, _, _ => elseK E f draw o F h K
 | .mapUpdate t m k x => match E.P.underlying t, plain (evOp E F.tmg m), plain (evOp E F.tmg k), plain (evOp E F.tmg x) with
   | some (.map kt _), some (.map id), some key, some v => match E.P.underlying kt with
     | some d => match keyFits d key with
       | true => S.mupd h id d key v fun es => K F ⟨.e, none, none, false, h.set id (.map es)⟩
       | false => False
     | _ => False
   | _, _, _, _ => False
 | .convert s d x => match E.P.underlying s, E.P.underlying d, plain (evOp E F.tmg x) with
   | some (.slice e), some .string, some (.vslice _ _ _ 1 cs) => match E.P.underlying e with
     | some (.int .u8) => S.byt cs fun b => K F ⟨.p, some (.v (.str b)), none, false, h⟩
     | _ => False
   | _, _, _ => elseK E f draw o F h K
 | _ => elseK E f draw o F h K
def opA (n : Nat) (o : Oper) (F : GF) (h : Heap) (K : GF -> Ef -> Prop) : Prop := match o.op with
 | .makeSlice t l c => match E.P.underlying t, o.dst, asI (evOp E F.tmg l), asI (evOp E F.tmg c) with
   | some (.slice e), some d, some l, some c => match szOf E.P e, bytesOf E.P e, zeroIV E.P e with
     | some (sz + 1), some bytes, some z => match Nat.beq (cellsOf z).length (sz + 1) with
       | true => S.need (decide (0 <= l) && (decide (l <= c) && (decide (c <= 9223372036854775807) && decide (bytes * c <= 140737488355328))))
         (match Nat.beq (1 - E.A f d) 0 with
          | true => S.need (Nat.ble 1 l.toNat) (S.fre h n (K F ⟨.a, some (.v (rowVal n (1 - E.A f d) l.toNat (sz + 1) (repl l.toNat (cellsOf z)))), none, false, h.set n (rowObj (1 - E.A f d) l.toNat (sz + 1) (repl l.toNat (cellsOf z)))⟩))
          | false => S.fre h n (K F ⟨.a, some (.v (rowVal n (1 - E.A f d) l.toNat (sz + 1) (repl l.toNat (cellsOf z)))), none, false, h.set n (rowObj (1 - E.A f d) l.toNat (sz + 1) (repl l.toNat (cellsOf z)))⟩))
       | false => False
     | _, _, _ => False
   | _, _, _, _ => False
 | .call { callee := .builtin .append, args, argTypes } => match argTypes.toList, args.toList with
   | [t, u], [sx, xx] => match plain (evOp E F.tmg sx), plain (evOp E F.tmg xx), E.P.underlying t, E.P.underlying u, o.dst with
     | some .nilslice, some x, some (.slice e), some du, some d => match szOf E.P e, bytesOf E.P e, zeroIV E.P e with
       | some (sz + 1), some (bytes + 1), some z => match Nat.beq (cellsOf z).length (sz + 1) && srcKind du with
         | true => match srcA (sz + 1) x with
           | some (k, xs) => S.br (Nat.beq k 0) (K F ⟨.p, some (.v .nilslice), none, false, h⟩)
             (S.need (Nat.ble (k * (bytes + 1)) 140737488355328) (S.fre h n (K F ⟨.a, some (.v (rowVal n (E.A f d) k (sz + 1) xs)), none, false, h.set n (rowObj (E.A f d) k (sz + 1) xs)⟩)))
           | none => False
         | false => False
       | _, _, _ => False
     | _, _, _, _, _ => False
   | _, _ => False
 | _ => match aSh E f o (evOp E F.tmg) n with
   | some (v, none) => K F ⟨.p, v, none, false, h⟩
   | some (v, some x) => S.fre h n (K F ⟨.a, v, none, false, h.set n x⟩)
   | none => False
def guardK (ops : List Oper) (o : Oper) (F : GF) (run skip : GF -> Prop) : Prop := match o.guard with
 | none => run F
 | some (j, b) => match (ops[j]?).bind (·.dst) with
   | some d => match F.tmg d with
     | some (.v (.bool x)) => S.br x ((match b with | true => run | false => skip) (F.put (some d) (some (.v (.bool true))))) ((match b with | true => skip | false => run) (F.put (some d) (some (.v (.bool false)))))
     | some .u => skip F
     | _ => False
   | none => False
def weakK (b : Nat) (h : Heap) (A : Prop) : Ps -> Prop
 | [] => A
 | q :: r => match b.testBit q.1 with
   | true => weakK b h A r
   | false => q.2 h /\ weakK b h A r
def rdK (rs : Nat -> Option Nat) (m : Met) (b : Nat) (id : Option Nat) (A : Prop) : List Nat -> Prop
 | [] => A
 | j :: r => match b.testBit j || !(m.a.testBit j) with
   | true => rdK rs m b id A r
   | false => match rs j, id with
     | some n, some k => S.need (!(Nat.beq n k)) (rdK rs m b id A r)
     | _, _ => rdK rs m b id A r
def rdcK (al : List Nat) (rs : Nat -> Option Nat) (m : Met) (b : Nat) (id : Option Nat) (c : Cls) (A : Prop) : Prop := match c with
 | .r => rdK S rs m b id A al
 | _ => A
def chkK (al : List Nat) (rs : Nat -> Option Nat) (draw : Bool) (m : Met) (ps : Ps) (b : Nat) (id : Option Nat) (e : Ef) (A : Prop) : Prop := match draw with
 | false => A
 | true => match within (m.chk e.c) b with
   | true => rdcK S al rs m b id e.c A
   | false => match e.c with
     | .e => match within (m.e ||| m.a) b with
       | true => weakK b e.h A ps
       | false => False
     | _ => False
def dOps (ops : List Oper) (draw : Bool) (bef : Nat -> Nat) (al : List Nat) (rs : Nat -> Option Nat) : List (Oper × Nat) -> Met -> Ps -> GF -> Heap -> (GF -> Heap -> Prop) -> Prop
 | [], _, _, F, h, K => K F h
 | (o, i) :: r, m, ps, F, h, K => guardK S ops o F
   (fun F1 => (match rs i with
    | none => opW S E f draw o F1 h
    | some n => opA S E f n o F1 h) fun F2 e => chkK S al rs draw m ps (bef i) (rdId o (evOp E F1.tmg)) e (dOps ops draw bef al rs r (m.add e.c i) (psAdd E o (evOp E F.tmg) e i ps) (F2.app o.dst e) e.h K))
   (fun F => dOps ops draw bef al rs r m ps (F.put o.dst (some .u)) h K)
def firstReg : Code -> Nat
 | .region id _ _ => id + 1
 | .seq a b => match firstReg a with
   | 0 => firstReg b
   | n => n
 | .cond _ a b => match firstReg a with
   | 0 => firstReg b
   | n => n
 | .block _ c => firstReg c
 | .loop c => firstReg c
 | .scope c => firstReg c
 | _ => 0
def dUn (body : GF -> Heap -> (Ex -> GF -> Heap -> Prop) -> Prop) : Nat -> GF -> Heap -> (Ex -> GF -> Heap -> Prop) -> Prop
 | 0, _, _, _ => False
 | n + 1, F, h, K => body F h fun x F h => match x with
   | .normal => dUn body n F h K
   | x => K x F h
variable (U : Nat -> Nat) (IL IC : Nat -> Option Inv')
def dC : Code -> GF -> Heap -> (Ex -> GF -> Heap -> Prop) -> Prop
 | .skip, F, h, K => K .normal F h
 | .region id ops draw, F, h, K => match E.an f id with
   | [] => dOps S E f ops.toList draw (befOf ops) [] (fun _ => none) (ordL (E.od f id) draw ops.toList) {} [] (F.start E f ops.toList draw) h fun F h => K .normal F h
   | j :: r => dOps S E f ops.toList draw (befOf ops) (j :: r) (rsOf h.next (j :: r)) (ordL (E.od f id) draw ops.toList) {} [] (F.start E f ops.toList draw) (h.reserve (r.length + 1)) fun F h => K .normal F h
 | .seq a b, F, h, K => match IC (firstReg b) with
   | none => match IC (Nat.add (firstReg b) 1000000) with
     | none => dC a F h fun x F h => match x with
       | .normal => dC b F h K
       | x => K x F h
     | some v => ∃ M : Nat, (dC a F h fun x F h => match x with
       | .normal => v.J F h fun m => m <= M
       | x => K x F h) /\ v.I fun G h m => m <= M -> dC b G h K
   | some v => (dC a F h fun x F h => match x with
     | .normal => v.J F h fun _ => True
     | x => K x F h) /\ v.I fun G h _ => dC b G h K
 | .cond c a b, F, h, K => match evOp E F.tmg c with
   | some (.v (.bool x)) => S.br x (dC a (bNow c F true) h K) (dC b (bNow c F false) h K)
   | _ => False
 | .block id c, F, h, K => dC c F h fun x F h => match x with
   | .exit id' => match Nat.beq id' id with
     | true => K .normal F h
     | false => K (.exit id') F h
   | x => K x F h
 | .loop c, F, h, K => match U (firstReg c) with
   | n + 1 => dUn (dC c) (n + 1) F h K
   | 0 => match IL (firstReg c) with
     | some v => (v.J F h fun _ => True) /\ v.I fun G h m => dC c G h fun x G h => match x with
       | .normal => v.J G h fun m' => m' < m
       | x => K x G h
     | none => match IL (Nat.add (firstReg c) 1000000) with
       | some v => ∃ M : Nat, (v.J F h fun m => m <= M) /\ v.I fun G h m => m <= M -> dC c G h fun x G h => match x with
         | .normal => v.J G h fun m' => m' < m
         | x => K x G h
       | none => False
 | .exit id, F, h, K => K (.exit id) F h
 | .scope c, F, h, K => dC c F h K
 | .ret, F, h, K => K .ret F h
 | _, _, _, _ => False
def blkK (id : Nat) (K : Ex -> GF -> Heap -> Prop) (x : Ex) (F : GF) (h : Heap) : Prop := match x with
 | .exit id' => match Nat.beq id' id with
   | true => K .normal F h
   | false => K (.exit id') F h
 | x => K x F h
def dSeg : Code -> GF -> Heap -> (Ex -> GF -> Heap -> Prop) -> Prop
 | .seq a b, F, h, K => match IC (firstReg b) with
   | none => dC S E f U IL IC a F h fun x F h => match x with
     | .normal => dSeg b F h K
     | x => K x F h
   | some v => dC S E f U IL IC a F h fun x F h => match x with
     | .normal => v.J F h fun _ => True
     | x => K x F h
 | .block id c, F, h, K => dSeg c F h (blkK id K)
 | .scope c, F, h, K => dSeg c F h K
 | c, F, h, K => dC S E f U IL IC c F h K
def dCuts : Code -> (Ex -> GF -> Heap -> Prop) -> Prop
 | .seq _ b, K => match IC (firstReg b) with
   | none => dCuts b K
   | some v => (v.I fun G h _ => dSeg S E f U IL IC b G h K) /\ dCuts b K
 | .block id c, K => dCuts c (blkK id K)
 | .scope c, K => dCuts c K
 | _, _ => True
def segKey : Nat := 99999999
def resK (F : GF) (h : Heap) (K : IV -> Prop) : ResultVar -> Prop
 | .tmp t => match plain (F.tmg t) with
   | some v => K v
   | none => False
 | .cell a t => match F.tmg a with
   | some (.l s off) => match F.lvg s with
     | some cs => ldW S E f (some a) t cs off K
     | none => False
   | some (.v (.ptr id off)) => S.hget h id fun cs => ldW S E f (some a) t cs off K
   | _ => False
def resKs (F : GF) (h : Heap) : List ResultVar -> (List IV -> Prop) -> Prop
 | [], K => K []
 | r :: rs, K => resK S E f F h (fun v => resKs F h rs fun vs => K (v :: vs)) r
def frameG : List IV -> Nat -> PT (Option TV) -> PT (Option TV)
 | [], _, t => t
 | v :: r, i, t => frameG r (i + 1) (t.set i (some (some (.v v))))
def frame0 (args : List IV) : GF := ⟨frameG args 0 .nil, .nil, FF.none⟩
def frz1K (h : Heap) (v : IV) (K : IV -> Heap -> Prop) : Prop := match v with
 | .hslice id off len sz => S.hget h id fun cs => S.need (Nat.ble 1 sz && Nat.ble (off + len * sz) cs.length) (K (.vslice none 0 len sz ((cs.drop off).take (len * sz))) (h.set id .dead))
 | v => K v h
def frzLK (g : Heap -> IV -> (IV -> Heap -> Prop) -> Prop) : List IV -> Heap -> (List IV -> Heap -> Prop) -> Prop
 | [], h, K => K [] h
 | v :: r, h, K => g h v fun v' h' => frzLK g r h' fun r' h'' => K (v' :: r') h''
def frz2K (h : Heap) (v : IV) (K : IV -> Heap -> Prop) : Prop := match v with
 | .agg cs => frzLK (frz1K S) cs h fun cs' h' => K (.agg cs') h'
 | v => frz1K S h v K
def frzAllK (vs : List IV) (h : Heap) (K : List IV -> Prop) : Prop := match E.fz f with
 | true => frzLK (frz2K S) vs h fun vs' _ => K vs'
 | false => K vs
def dBody (rs : List ResultVar) (c : Code) (args : List IV) (h : Heap) (K : List IV -> Heap -> Prop) : Prop :=
 match IC segKey with
 | none => dC S E f U IL IC c (frame0 args) h fun x F h' => match x with
   | .exit _ => False
   | _ => resKs S E f F h' rs fun vs => K vs h'
 | some _ => (dSeg S E f U IL IC c (frame0 args) h fun x F h' => match x with
   | .exit _ => False
   | _ => resKs S E f F h' rs fun vs => K vs h') /\ dCuts S E f U IL IC c fun x F h' => match x with
   | .exit _ => False
   | _ => resKs S E f F h' rs fun vs => K vs h'
def dF (args : List IV) (h : Heap) (Q : IV -> Heap -> Prop) : Prop := match E.P.funcs[f]? with
 | some fn => match fn.body with
   | some c => match E.iso f with
     | false => dBody S E f U IL IC fn.results.toList c args h fun vs h' => match E.fz f with
       | true => Q (giveOut E f (tupleOf vs) h').1 (giveOut E f (tupleOf vs) h').2
       | false => Q (tupleOf vs) h'
     | true => S.need (pureL (nrmVs E.P fn.params.toList args)) (dBody S E f U IL IC fn.results.toList c (nrmVs E.P fn.params.toList args) Heap.empty fun vs h' =>
       frzAllK S E f vs h' fun ws => S.need (pureL (nrmVs E.P fn.resultTypes.toList ws)) (Q (tupleOf (nrmVs E.P fn.resultTypes.toList ws)) h))
   | none => False
 | none => False
end
end Go.Pv
