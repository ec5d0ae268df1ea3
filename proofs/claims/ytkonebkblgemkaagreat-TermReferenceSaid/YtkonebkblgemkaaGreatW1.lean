/-
  Texts of this proof, one after the other.
  Conditions: none.
-/
import Derived.WalkKit
import Derived.Orders
import Derived.Laws.StructEq
import Derived.WalkSpells
import Derived.Laws.BytesArg
import Derived.Laws.BytesString
import Derived.Deep.AppendSrc
import Derived.Laws.AppendOwn
import Derived.Scope
import Derived.LoopN
import Derived.Below
import Derived.Carry
import Derived.ChangeSame
import Derived.RowKit
import Derived.LaidLaws
import Derived.Test.YtkonebkblgemkaaGreatChecked
import Derived.Eval
import Derived.KernelRfl
import Derived.IntWalk
import Derived.Test.YtkonebkblgemkaaGreatRows
import Derived.ProofKit
import Derived.OpenShut
set_option linter.unusedVariables false
set_option linter.unusedSimpArgs false
set_option maxRecDepth 100000
set_option maxHeartbeats 4000000
noncomputable section
namespace Go
abbrev _root_.Y10:=Option Nat
abbrev _root_.Y11:=List UInt8
abbrev _root_.Y12:=List Int
abbrev _root_.Y13:=List Bool
theorem AA:type_of% @List.getElem?_eq_getElem:=@List.getElem?_eq_getElem
theorem AB:type_of% @Go.IntWalk.i64_in:=@Go.IntWalk.i64_in
theorem AC:type_of% @Option.some.injEq:=@Option.some.injEq
theorem AD:type_of% @Option.map_eq_some_iff:=@Option.map_eq_some_iff
theorem AE:type_of% @Int.toNat_natCast:=@Int.toNat_natCast
theorem AF:type_of% @Bool.and_eq_true:=@Bool.and_eq_true
theorem AG:type_of% @List.getElem_mem:=@List.getElem_mem
theorem AH:type_of% @List.length_append:=@List.length_append
theorem AI:type_of% @Nat.lt_of_lt_of_le:=@Nat.lt_of_lt_of_le
theorem AJ:type_of% @Nat.le_refl:=@Nat.le_refl
theorem AK:type_of% @List.length_cons:=@List.length_cons
theorem AL:type_of% @Go.Result.andThen_ok:=@Go.Result.andThen_ok
theorem AM:type_of% @Nat.ble_eq:=@Nat.ble_eq
theorem AN:type_of% @List.getD_eq_getElem?_getD:=@List.getD_eq_getElem?_getD
theorem AO:type_of% @Nat.mul_one:=@Nat.mul_one
theorem AP:type_of% @List.take_of_length_le:=@List.take_of_length_le
theorem AQ:type_of% @Nat.lt_succ_self:=@Nat.lt_succ_self
theorem AR:type_of% @Nat.zero_le:=@Nat.zero_le
theorem AS:type_of% @Nat.eq_of_beq_eq_true:=@Nat.eq_of_beq_eq_true
theorem AT:type_of% @Bool.and_true:=@Bool.and_true
theorem AU:type_of% @Go.Sem.run_bind:=@Go.Sem.run_bind
theorem AW:type_of% @List.length_take:=@List.length_take
theorem AX:type_of% @Option.some.inj:=@Option.some.inj
theorem AY:type_of% @List.length_nil:=@List.length_nil
theorem AZ:type_of% @Go.Sem.run_pure:=@Go.Sem.run_pure
theorem BA:type_of% @Bool.false_eq_true:=@Bool.false_eq_true
theorem BB:type_of% @List.getElem?_eq_some_iff:=@List.getElem?_eq_some_iff
theorem BC:type_of% @Nat.lt_or_ge:=@Nat.lt_or_ge
theorem BD:type_of% @List.getElem?_append_left:=@List.getElem?_append_left
theorem BF:type_of% @List.length_map:=@List.length_map
theorem BG:type_of% @List.getElem?_eq_none:=@List.getElem?_eq_none
theorem BI:type_of% @List.take_succ_eq_append_getElem:=@List.take_succ_eq_append_getElem
theorem BJ:type_of% @List.mem_cons_self:=@List.mem_cons_self
theorem BK:type_of% @Nat.le_trans:=@Nat.le_trans
theorem BL:type_of% @List.getElem?_map:=@List.getElem?_map
theorem BM:type_of% @Nat.lt_succ_of_lt:=@Nat.lt_succ_of_lt
theorem BN:type_of% @Bool.true_and:=@Bool.true_and
theorem BO:type_of% @List.mem_singleton:=@List.mem_singleton
theorem BQ:type_of% @List.mem_cons:=@List.mem_cons
theorem BS:type_of% @List.cons.injEq:=@List.cons.injEq
theorem BT:type_of% @Nat.zero_add:=@Nat.zero_add
theorem BU:type_of% @List.getElem?_append_right:=@List.getElem?_append_right
theorem BX:type_of% @List.mem_cons_of_mem:=@List.mem_cons_of_mem
theorem BY:type_of% @Prod.mk.injEq:=@Prod.mk.injEq
theorem BZ:type_of% @List.eq_nil_of_length_eq_zero:=@List.eq_nil_of_length_eq_zero
theorem CA:type_of% @List.all_eq_true:=@List.all_eq_true
theorem CB:type_of% @List.mem_append:=@List.mem_append
theorem CC:type_of% @Nat.le_of_ble_eq_true:=@Nat.le_of_ble_eq_true
theorem CD:type_of% @List.length_drop:=@List.length_drop
theorem CE:type_of% @Nat.mul_le_mul_right:=@Nat.mul_le_mul_right
theorem CF:type_of% @List.map_cons:=@List.map_cons
theorem CG:type_of% @Bool.false_ne_true:=@Bool.false_ne_true
theorem CH:type_of% @Bool.not_eq_true':=@Bool.not_eq_true'
theorem CI:type_of% @Int.emod_lt_of_pos:=@Int.emod_lt_of_pos
theorem CJ:type_of% @Option.bind_eq_some_iff:=@Option.bind_eq_some_iff
theorem CL:type_of% @Bool.or_eq_true:=@Bool.or_eq_true
theorem CM:type_of% @Int.emod_nonneg:=@Int.emod_nonneg
theorem CN:type_of% @Nat.succ_pos:=@Nat.succ_pos
theorem CO:type_of% @Prod.mk.inj:=@Prod.mk.inj
theorem CP:type_of% @Int.tmod_eq_emod_of_nonneg:=@Int.tmod_eq_emod_of_nonneg
theorem CQ:type_of% @List.cons_append:=@List.cons_append
theorem CR:type_of% @List.mem_of_getElem?:=@List.mem_of_getElem?
theorem CS:type_of% @Option.getD_some:=@Option.getD_some
theorem CT:type_of% @List.mem_iff_getElem:=@List.mem_iff_getElem
theorem CU:type_of% @List.flatMap_cons:=@List.flatMap_cons
theorem CV:type_of% @Bool.not_eq_false':=@Bool.not_eq_false'
theorem CW:type_of% @Array.getElem?_setIfInBounds:=@Array.getElem?_setIfInBounds
theorem CX:type_of% @Array.getD_eq_getD_getElem?:=@Array.getD_eq_getD_getElem?
theorem CY:type_of% @Array.getElem?_toList:=@Array.getElem?_toList
theorem CZ:type_of% @List.drop_zero:=@List.drop_zero
theorem DA:type_of% @Int.fdiv_eq_ediv_of_nonneg:=@Int.fdiv_eq_ediv_of_nonneg
theorem DB:type_of% @List.getElem?_cons_succ:=@List.getElem?_cons_succ
theorem DC:type_of% @List.getElem?_cons_zero:=@List.getElem?_cons_zero
theorem DD:type_of% @Nat.add_mul:=@Nat.add_mul
theorem DE:type_of% @List.map_append:=@List.map_append
theorem DF:type_of% @List.not_mem_nil:=@List.not_mem_nil
theorem DG:type_of% @Nat.ne_of_gt:=@Nat.ne_of_gt
theorem DH:type_of% @Int.toNat_of_nonneg:=@Int.toNat_of_nonneg
theorem DI:type_of% @Option.isSome_none:=@Option.isSome_none
theorem DJ:type_of% @Nat.not_lt_zero:=@Nat.not_lt_zero
theorem DK:type_of% @List.append_nil:=@List.append_nil
theorem DL:type_of% @List.ext_getElem?:=@List.ext_getElem?
theorem DM:type_of% @List.append_assoc:=@List.append_assoc
theorem DN:type_of% @Option.map_some:=@Option.map_some
theorem DO:type_of% @List.set_eq_take_append_cons_drop:=@List.set_eq_take_append_cons_drop
theorem DP:type_of% @List.getElem?_take:=@List.getElem?_take
theorem DQ:type_of% @List.getElem?_drop:=@List.getElem?_drop
theorem DR:type_of% @List.take_length:=@List.take_length
theorem DS:type_of% @Array.getElem?_modify:=@Array.getElem?_modify
theorem DT:type_of% @List.take_append_drop:=@List.take_append_drop
theorem DU:type_of% @List.take_append_of_le_length:=@List.take_append_of_le_length
theorem DV:type_of% @Nat.succ_mul:=@Nat.succ_mul
theorem DW:type_of% @List.prefix_refl:=@List.prefix_refl
theorem DX:type_of% @List.size_toArray:=@List.size_toArray
theorem DY:type_of% @List.nil_append:=@List.nil_append
theorem EA:type_of% @List.drop_succ_cons:=@List.drop_succ_cons
theorem EB:type_of% @Int.tdiv_eq_ediv_of_nonneg:=@Int.tdiv_eq_ediv_of_nonneg
theorem EC:type_of% @List.getElem?_toArray:=@List.getElem?_toArray
theorem ED:type_of% @Nat.le_succ:=@Nat.le_succ
theorem EE:type_of% @List.getElem?_take_of_lt:=@List.getElem?_take_of_lt
theorem EF:type_of% @List.flatMap_append:=@List.flatMap_append
theorem EG:type_of% @List.mem_zipIdx_iff_getElem?:=@List.mem_zipIdx_iff_getElem?
theorem EH:type_of% @List.take_prefix:=@List.take_prefix
theorem EI:type_of% @List.mem_map:=@List.mem_map
theorem EJ:type_of% @List.prefix_append:=@List.prefix_append
theorem EK:type_of% @List.length_replicate:=@List.length_replicate
theorem EL:type_of% @Array.ext':=@Array.ext'
theorem EM:type_of% @List.mem_of_mem_take:=@List.mem_of_mem_take
theorem EN:type_of% @Array.length_toList:=@Array.length_toList
theorem EO:type_of% @Nat.mul_le_mul_left:=@Nat.mul_le_mul_left
theorem EP:type_of% @List.all_cons:=@List.all_cons
theorem EQ:type_of% @List.map_take:=@List.map_take
theorem ER:type_of% @Bool.eq_iff_iff:=@Bool.eq_iff_iff
theorem ES:type_of% @Nat.ne_of_beq_eq_false:=@Nat.ne_of_beq_eq_false
theorem ET:type_of% @Array.size_append:=@Array.size_append
theorem EU:type_of% @List.mem_range:=@List.mem_range
theorem EV:type_of% @Bool.false_and:=@Bool.false_and
theorem EX:type_of% @Nat.zero_mul:=@Nat.zero_mul
theorem EY:type_of% @Nat.div_lt_iff_lt_mul:=@Nat.div_lt_iff_lt_mul
theorem EZ:type_of% @Nat.sub_self:=@Nat.sub_self
theorem FA:type_of% @List.take_append:=@List.take_append
theorem FB:type_of% @Int.emod_emod_of_dvd:=@Int.emod_emod_of_dvd
theorem FD:type_of% @Nat.add_assoc:=@Nat.add_assoc
theorem FE:type_of% @List.map_drop:=@List.map_drop
theorem FG:type_of% @Array.getElem?_push:=@Array.getElem?_push
theorem FH:type_of% @List.map_congr_left:=@List.map_congr_left
theorem FI:type_of% @List.extract_eq_take_drop:=@List.extract_eq_take_drop
theorem FJ:type_of% @Nat.min_eq_left:=@Nat.min_eq_left
theorem FK:type_of% @List.length_set:=@List.length_set
theorem FL:type_of% @Nat.add_zero:=@Nat.add_zero
theorem FM:type_of% @Option.isSome_iff_exists:=@Option.isSome_iff_exists
theorem FO:type_of% @List.map_nil:=@List.map_nil
theorem FP:type_of% @Nat.eq_zero_or_pos:=@Nat.eq_zero_or_pos
theorem FQ:type_of% @Nat.testBit_or:=@Nat.testBit_or
theorem FS:type_of% @Go.IntWalk.u64_in:=@Go.IntWalk.u64_in
theorem FT:type_of% @List.getElem_drop:=@List.getElem_drop
theorem FU:type_of% @List.getElem_take:=@List.getElem_take
theorem FW:type_of% @List.flatten_cons:=@List.flatten_cons
theorem FX:type_of% @List.getElem_cons_zero:=@List.getElem_cons_zero
theorem FY:type_of% @List.getElem_cons_succ:=@List.getElem_cons_succ
theorem FZ:type_of% @Nat.le_of_succ_le_succ:=@Nat.le_of_succ_le_succ
theorem GA:type_of% @Bool.not_eq_true:=@Bool.not_eq_true
theorem GC:type_of% @Array.all_eq_true_iff_forall_mem:=@Array.all_eq_true_iff_forall_mem
theorem GD:type_of% @Nat.le_max_right:=@Nat.le_max_right
theorem GE:type_of% @List.foldl_cons:=@List.foldl_cons
theorem GG:type_of% @List.mem_filter:=@List.mem_filter
theorem GH:type_of% @Int.tmod_nonneg:=@Int.tmod_nonneg
theorem GI:type_of% @Int.mul_le_mul_of_nonneg_left:=@Int.mul_le_mul_of_nonneg_left
theorem GJ:type_of% @List.getElem_of_mem:=@List.getElem_of_mem
theorem GK:type_of% @List.take_succ_cons:=@List.take_succ_cons
theorem GM:type_of% @Array.toList_append:=@Array.toList_append
theorem GO:type_of% @Array.toList_modify:=@Array.toList_modify
theorem GP:type_of% @List.getElem?_range:=@List.getElem?_range
theorem GQ:type_of% @List.replicate_succ:=@List.replicate_succ
theorem GR:type_of% @Int.le_refl:=@Int.le_refl
theorem GU:type_of% @List.mem_filterMap:=@List.mem_filterMap
theorem GV:type_of% @List.pairwise_cons:=@List.pairwise_cons
theorem GW:type_of% @Nat.pos_of_ne_zero:=@Nat.pos_of_ne_zero
theorem GY:type_of% @Array.toList_setIfInBounds:=@Array.toList_setIfInBounds
theorem GZ:type_of% @Array.getElem?_eq_some_iff:=@Array.getElem?_eq_some_iff
theorem HA:type_of% @Array.getElem?_append_left:=@Array.getElem?_append_left
theorem HB:type_of% @Nat.le_succ_of_le:=@Nat.le_succ_of_le
theorem HC:type_of% @List.length_range:=@List.length_range
theorem HD:type_of% @Array.mapM_eq_mapM_toList:=@Array.mapM_eq_mapM_toList
theorem HE:type_of% @List.getElem_append_right:=@List.getElem_append_right
theorem HG:type_of% @Array.getElem?_eq_getElem:=@Array.getElem?_eq_getElem
theorem HH:type_of% @List.pairwise_iff_getElem:=@List.pairwise_iff_getElem
theorem HI:type_of% @List.mem_or_eq_of_mem_set:=@List.mem_or_eq_of_mem_set
theorem HJ:type_of% @List.drop_append:=@List.drop_append
theorem HK:type_of% @Nat.mod_eq_of_lt:=@Nat.mod_eq_of_lt
theorem HL:type_of% @Array.toList_map:=@Array.toList_map
theorem HM:type_of% @List.getElem_append_left:=@List.getElem_append_left
theorem HN:type_of% @List.map_toArray:=@List.map_toArray
theorem HO:type_of% @Array.getElem?_replicate:=@Array.getElem?_replicate
theorem HP:type_of% @Nat.sub_zero:=@Nat.sub_zero
theorem HQ:type_of% @Nat.ne_of_lt:=@Nat.ne_of_lt
theorem HR:type_of% @Int.dvd_refl:=@Int.dvd_refl
theorem HS:type_of% @Int.eq_ofNat_of_zero_le:=@Int.eq_ofNat_of_zero_le
theorem HT:type_of% @Option.map_none:=@Option.map_none
theorem HU:type_of% @Nat.le_max_left:=@Nat.le_max_left
theorem HV:type_of% @List.drop_of_length_le:=@List.drop_of_length_le
theorem HW:type_of% @List.take_take:=@List.take_take
theorem HX:type_of% @List.mapM_cons:=@List.mapM_cons
theorem HY:type_of% @Bool.and_false:=@Bool.and_false
theorem HZ:type_of% @List.singleton_append:=@List.singleton_append
theorem IA:type_of% @Nat.mod_lt:=@Nat.mod_lt
theorem IB:type_of% @List.pairwise_append:=@List.pairwise_append
theorem ID:type_of% @List.getElem?_set_ne:=@List.getElem?_set_ne
theorem IE:type_of% @List.replicate_succ':=@List.replicate_succ'
theorem IF:type_of% @List.mem_of_mem_drop:=@List.mem_of_mem_drop
theorem IG:type_of% @Bool.and_self:=@Bool.and_self
theorem IH:type_of% @List.getElem_append:=@List.getElem_append
theorem II:type_of% @Nat.le_of_eq:=@Nat.le_of_eq
theorem IJ:type_of% @Nat.beq_refl:=@Nat.beq_refl
theorem IK:type_of% @Nat.mul_pos:=@Nat.mul_pos
end Go
theorem Go.IM{p:Prop}(h:p:=by omega):p:=h
theorem Go.IN{p:Prop}(h:p:=by decide):p:=h
theorem Go.IP{p:Prop}(h:p:=by simp):p:=h
theorem Go.IQ{p:Prop}(h:p:=by exact Nat.le_of_ble_eq_true rfl):p:=h
theorem Go.IR{p:Prop}(h:p:=by first|rfl|exact True.intro):p:=h
theorem Go.IS{p:Prop}(h:p:=by dsimp only;omega):p:=h
variable{i j m b:Nat}{x y z u v:Int}{K L:Y12}{V W:List Go.Value}{T U:Go.TypeId}{o:Bool}{X Y:Go.Value}{O:Go.Oper}{N:Y10}{H:Array Go.Value}
section
namespace Go.Pv
inductive IV where
 |bool (b:Bool)
 |int (k:IntKind) (n:Int)
 |str (s:Y11)
 |nilptr
 |ptr (id off:Nat)
 |vref (cs:List IV) (off:Nat)
 |nilslice
 |hslice (id off len sz:Nat)
 |vslice (id:Y10) (e len sz:Nat) (cs:List IV)
 |nilmap
 |map (id:Nat)
 |func (fn:Fn) (first captured:List IV)
 |nilfunc
 |iface (t:TypeId) (v:IV)
 |nilIface
 |agg (cs:List IV)
 |tuple (vs:List IV)
 deriving Inhabited
abbrev _root_.Y14:=List IV
inductive TV where
 |v (x:IV)
 |l (s off:Nat)
 |u
 deriving Inhabited
inductive PT(α:Type) where
 |nil
 |node (l:PT α) (v:Option α) (r:PT α)
 deriving Inhabited
namespace PT
variable {α:Type}
def get:PT α->Nat->Option α
 |nil,_=>none
 |node l v r,k=>if k=0 then v else if k%2=1 then l.get ((k-1)/2)else r.get ((k-2)/2)
def left:PT α->PT α
 |nil=>nil
 |node l _ _=>l
def right:PT α->PT α
 |nil=>nil
 |node _ _ r=>r
def val:PT α->Option α
 |nil=>none
 |node _ v _=>v
def J4:Nat->PT α->Nat->Option α->PT α
 |0,t,_,_=>t
 |n+1,t,k,x=>
  if k=0 then node t.left x t.right
  else if k%2=1 then node (J4 n t.left ((k-1)/2) x) t.val t.right
  else node t.left t.val (J4 n t.right ((k-2)/2) x)
def set(t:PT α)(k:Nat)(x:Option α):PT α:=J4 (k+1) t k x
def filt(f:α->Bool):PT α->PT α
 |nil=>nil
 |node l v r=>node (l.filt f) (match v with|some x=>if f x then some x else none|none=>none) (r.filt f)
end PT
inductive IObj where
 |cells (cs:Y14)
 |tip (n:Nat)
 |map (es:List (IV×IV))
 |dead
 |free
 deriving Inhabited
structure Heap where
 o:PT IObj
 next:Nat
 deriving Inhabited
def Heap.get(h:Heap)(id:Nat):IObj:=(h.o.get id).getD .dead
def Heap.set(h:Heap)(id:Nat)(x:IObj):Heap:= {h with o:=h.o.set id (some x) }
def Heap.push(h:Heap)(x:IObj):Heap:= {o:=h.o.set h.next (some x),next:=h.next+1 }
def Heap.empty:Heap:=⟨.nil,0⟩
def Heap.reserve(h:Heap):Nat->Heap
 |0=>h
 |k+1=>(h.reserve k).push .free
structure Fr where
 tm:PT TV
 lv:PT (Y14)
 deriving Inhabited
structure Env where
 P:Program
 G:Nat->Option (Y14)
 A:FuncId->Nat->Nat
 bx:FuncId->Nat->Nat
 fz:FuncId->Bool
 nf:FuncId->Bool
 iso:FuncId->Bool
 ld:FuncId->Nat->Bool:=fun _ _=>false
 ln:FuncId->Nat->Nat:=fun _ _=>0
 an:FuncId->Nat->List Nat:=fun _ _=>[]
 od:FuncId->Nat->List Nat:=fun _ _=>[]
 nr:FuncId->Bool:=fun _=>false
 fm:FuncId->Nat->Bool:=fun _ _=>false
 fd:FuncId->Bool:=fun _=>false
def isCell:IV->Bool
 | .agg _=>false
 | .tuple _=>false
 |_=>true
def oE:IV->Bool
 | .tuple _=>false
 |_=>true
def R4:Value->Option IV
 | .bool b=>some (.bool b)
 | .int k n=>some (.int k n)
 | .string s=>some (.str s.data.toList)
 | .pointer none=>some .nilptr
 | .slice none 0 0=>some .nilslice
 | .map none=>some .nilmap
 | .nilFunc=>some .nilfunc
 | .nilIface=>some .nilIface
 |_=>none
def pY:List Value->Option (Y14)
 | []=>some []
 |v::r=>match R4 v,pY r with
  |some x,some xs=>some (x::xs)
  |_,_=>none
def ofValue:Value->Option IV
 | .agg cs=>(pY cs.toList).map .agg
 |v=>R4 v
def cellsOf:IV->Y14
 | .agg cs=>cs
 |v=>[v]
section
variable (P:Program)
def fX(t:TypeId):Y10:=(P.info? t).map (·.size)
def gY(t:TypeId):Y10:=(P.info? t).map (·.bytes)
def dB(t:TypeId):Option IV:=((P.info? t).bind (·.zero)).bind ofValue
def zS:TypeDesc->Bool
 | .struct _=>true
 | .array _ _=>true
 |_=>false
def fV(t:TypeId):Option (Bool×Nat):=
 match P.underlying t,P.info? t with
 |some d,some i=>some (zS d,i.size)
 |_,_=>none
def eU(t:TypeId)(cs:Y14)(g:Nat):Option IV:=
 match fV P t with
 |some (true,n)=>if g+n<=cs.length then some (.agg ((cs.drop g).take n))else none
 |some (false,_)=>cs[g]?
 |none=>none
def K7(t:TypeId)(cs:Y14)(g:Nat)(v:IV):Option (Y14):=
 let c:=cellsOf v
 if oE v then
  match fX P t with
  |some n=>if c.length=n/\g+n<=cs.length then some (cs.take g++c++cs.drop (g+n))else none
  |none=>none
 else none
def zH(t:TypeId)(f:Nat):Option (TypeId×Nat):=
 match P.underlying t with
 |some (.struct fs)=>(fs[f]?).map fun x=>(x.type,x.offset)
 |_=>none
end
inductive CK where
 |int (k:IntKind)
 |bool
 |str
 |slc (sz:Nat)
 |any
def R5(P:Program)(t:TypeId):CK:=match P.underlying t with
 |some (.int k)=> .int k
 |some .bool=> .bool
 |some .string=> .str
 |some (.slice e)=>match fX P e with
  |some sz=> .slc sz
  |none=> .any
 |_=> .any
def rep{α:Type} :Nat->List α->List α
 |0,_=>[]
 |n+1,l=>l++rep n l
def sI(P:Program):Nat->TypeId->List CK
 |0,_=>[]
 |n+1,t=>match P.underlying t with
  |some (.struct fs)=>fs.toList.flatMap fun x=>sI P n x.type
  |some (.array m e)=>rep m (sI P n e)
  |_=>[R5 P t]
def zT:CK->IV->IV
 | .slc sz,.nilslice=> .vslice none 0 0 sz []
 | .slc _,.vslice _ _ len z cs=> .vslice none 0 len z cs
 |_,v=>v
def mK:List CK->Y14->Y14
 |ck::r,v::vs=>zT ck v::mK r vs
 |_,vs=>vs
def R6(P:Program)(t:TypeId)(v:IV):IV:=match v with
 | .agg cs=> .agg (mK (sI P 8 t) cs)
 |v=>zT (R5 P t) v
def gS(P:Program):List TypeId->Y14->Y14
 |t::ts,v::vs=>R6 P t v::gS P ts vs
 |_,vs=>vs
mutual
def bI:IV->Bool
 | .ptr _ _=>false
 | .hslice _ _ _ _=>false
 | .map _=>false
 | .vslice none _ _ _ cs=>aM cs
 | .vslice (some _) _ _ _ _=>false
 | .func _ xs ys=>aM xs&&aM ys
 | .iface _ v=>bI v
 | .agg cs=>aM cs
 | .tuple cs=>aM cs
 | .vref cs _=>aM cs
 |_=>true
def aM:Y14->Bool
 | []=>true
 |v::r=>bI v&&aM r
end
def spl(cells:Y14)(g:Nat)(c:Y14):Y14:=cells.take g++c++cells.drop (g+c.length)
def lV(g:Nat->Option (Nat×Nat))(cells:Y14):List (Nat×IV)->Option (Y14)
 | []=>some cells
 | (i,v)::r=>
  match g i with
  |none=>none
  |some (off,n)=>if(cellsOf v).length=n/\off+n<=cells.length/\oE v=true then lV g (spl cells off (cellsOf v)) r else none
def zI(P:Program)(g:Array Field)(i:Nat):Option (Nat×Nat):=(g[i]?).map fun x=>(x.offset,P.cellsOf x.type)
def fQ(n:Nat)(z:Y14):Y14:=
 match n with
 |0=>[]
 |n+1=>z++fQ n z
def d0I(k:IntKind)(a b:Int):Int:=k.wrap (BitVec.ofInt k.bits a&&&BitVec.ofInt k.bits b).toNat
def d5N(k:IntKind)(a b:Int):Int:=k.wrap (BitVec.ofInt k.bits a|||BitVec.ofInt k.bits b).toNat
def d0J(k:IntKind)(a b:Int):Int:=k.wrap (BitVec.ofInt k.bits a^^^BitVec.ofInt k.bits b).toNat
def Yn(k:IntKind)(a b:Int):Int:=k.wrap (BitVec.ofInt k.bits a&&& ~~~ BitVec.ofInt k.bits b).toNat
def pZ(op:BinOp)(k:IntKind)(a b:Int):Option IV:=
 match op with
 | .add=>some (.int k (k.wrap (a+b)))
 | .sub=>some (.int k (k.wrap (a-b)))
 | .mul=>some (.int k (k.wrap (a*b)))
 | .quo=>if b=0 then none else some (.int k (k.wrap (a.tdiv b)))
 | .rem=>if b=0 then none else some (.int k (a.tmod b))
 | .and=>some (.int k (d0I k a b))
 | .or=>some (.int k (d5N k a b))
 | .xor=>some (.int k (d0J k a b))
 | .andNot=>some (.int k (Yn k a b))
 | .eql=>some (.bool (a==b))
 | .neq=>some (.bool (a !=b))
 | .lss=>some (.bool (a<b))
 | .leq=>some (.bool (a<=b))
 | .gtr=>some (.bool (a>b))
 | .geq=>some (.bool (a>=b))
 |_=>none
def mU(op:BinOp)(k:IntKind)(a b:Int):Option IV:=
 if b<0 then none
 else match op with
  | .shl=>some (.int k (k.wrap (a*2^ (min b.toNat k.bits))))
  | .shr=>some (.int k (a.fdiv (2^ (min b.toNat k.bits))))
  |_=>none
def zU(op:BinOp)(x y:Y11):Option IV:=
 match op with
 | .add=>if((x.length+y.length:Nat):Int)>9223372036854775807 then none else some (.str (x++y))
 | .eql=>some (.bool (x==y))
 | .neq=>some (.bool (!(x==y)))
 | .lss=>some (.bool (Op.bytesLess x y))
 | .leq=>some (.bool (Op.bytesLess x y||x==y))
 | .gtr=>some (.bool (!(Op.bytesLess x y||x==y)))
 | .geq=>some (.bool (!Op.bytesLess x y))
 |_=>none
def dR:TypeDesc->IV->IV->Option Bool
 | .bool,.bool a,.bool b=>some (a==b)
 | .int _,.int k a,.int k' b=>if k=k' then some (a==b)else none
 | .string,.str a,.str b=>some (a==b)
 |_,_,_=>none
section
variable (P:Program)
def kW:List Field->Y14->Y14->Option Bool
 | [],_,_=>some true
 |f::fs,xs,ys=>
  if f.name == "_" then none else
  match P.underlying f.type,xs[f.offset]?,ys[f.offset]? with
  |some d,some x,some y=>match dR d x y with
   |some true=>kW fs xs ys
   |some false=>some false
   |none=>none
  |_,_,_=>none
def Vm(c:Bool)(t:TypeId)(x y:IV):Option Bool:=
 match P.underlying t with
 |some (.struct fs)=>
  match x,y with
  | .agg xs,.agg ys=>if P.stoodInHeld t||P.eqGuardType P.depth t then none else kW P fs.toList xs ys
  |_,_=>none
 |some (.pointer _)=>
  match x,y with
  | .nilptr,.nilptr=>some true
  | .nilptr,.ptr _ _| .nilptr,.vref _ _| .ptr _ _,.nilptr| .vref _ _,.nilptr=>some false
  |_,_=>none
 |some (.interface _)=>
  match x,y with
  | .nilIface,.nilIface=>if c then some true else none
  | .nilIface,.iface _ _| .iface _ _,.nilIface=>some false
  |_,_=>none
 |some (.slice _)=>
  match x,y with
  | .nilslice,.nilslice=>some true
  | .nilslice,.hslice .. | .hslice ..,.nilslice=>some false
  | .nilslice,.vslice id e len _ _=>if id.isSome|| (e==1)||decide (0<len)then some false else none
  | .vslice id e len _ _,.nilslice=>if id.isSome|| (e==1)||decide (0<len)then some false else none
  |_,_=>none
 |some (.map _ _)=>
  match x,y with
  | .nilmap,.nilmap=>some true
  | .nilmap,.map _| .map _,.nilmap=>some false
  |_,_=>none
 |some (.func _ _ _)=>
  match x,y with
  | .nilfunc,.nilfunc=>some true
  | .nilfunc,.func .. | .func ..,.nilfunc=>some false
  |_,_=>none
 |some d=>dR d x y
 |none=>none
def lW(op:BinOp)(c:Bool)(t:TypeId)(x y:IV):Option IV:=
 match x,y with
 | .int k a,.int k' b=>
  match op with
  | .shl=>mU .shl k a b
  | .shr=>mU .shr k a b
  |op=>if k=k' then pZ op k a b else none
 | .str a,.str b=>zU op a b
 |x,y=>
  match op with
  | .eql=>(Vm P c t x y).map .bool
  | .neq=>(Vm P c t x y).map fun b=> .bool (!b)
  |_=>none
def c1Z(op:UnOp)(x:IV):Option IV:=
 match op,x with
 | .neg,.int k n=>some (.int k (k.wrap (0-n)))
 | .xor,.int k n=>pZ .xor k (if k.signed then-1 else k.max) n
 | .not,.bool b=>some (.bool (!b))
 |_,_=>none
def fW:Y14->Option (Y11)
 | []=>some []
 | .int .u8 n::r=>(fW r).map (UInt8.ofNat n.toNat:: ·)
 |_=>none
def R7(s d:TypeId)(x:IV):Option IV:=
 match P.underlying s,P.underlying d with
 |some ds,some dd=>
  match dd,x with
  | .int k,.int _ n=>some (.int k (k.wrap n))
  | .string,.str b=>some (.str b)
  | .string,x=>
   match ds with
   | .slice e=>match P.underlying e with
    |some (.int .u8)=>match x with
     | .nilslice=>some (.str [])
     | .vslice _ _ _ 1 cs=>(fW cs).map .str
     |_=>none
    |_=>none
   |_=>none
  |_,_=>none
 |_,_=>none
def J5:Option TV->Option Int
 |some (.v (.int _ n))=>some n
 |_=>none
def gI(len:Nat)(lo hi:Option (Option TV)):Option (Nat×Nat):=
 let h:=match hi with
  |none=>some (len:Int)
  |some x=>J5 x
 let l:=match lo with
  |none=>some (0:Int)
  |some x=>J5 x
 match l,h with
 |some l,some h=>if 0<=l/\l<=h/\h<=len then some (l.toNat,h.toNat)else none
 |_,_=>none
def oF(t:TypeId)(x:IV)(lo hi:Option (Option TV)):Option IV:=
 match P.underlying t with
 |some .string=>match x with
  | .str s=>(gI s.length lo hi).map fun(l,h)=> .str ((s.drop l).take (h-l))
  |_=>none
 |some (.slice e)=>match fX P e with
  |some sz=>match x with
   | .nilslice=>(gI 0 lo hi).map fun _=> .nilslice
   | .hslice id off len z=>if z=sz then(gI len lo hi).map fun(l,h)=> .hslice id (off+l*sz) (h-l) sz else none
   | .vslice id e len z cs=>if z=sz then(gI len lo hi).map fun(l,h)=> .vslice id (e- (len-h)*sz) (h-l) sz ((cs.drop (l*sz)).take ((h-l)*sz))else none
   |_=>none
  |none=>none
 |_=>none
end
section
variable (E:Env)
def bD(i:Nat->Option TV):Operand->Option TV
 | .tmp t=>i t
 | .const v=>(ofValue v).map .v
 | .global g=>(E.G g).map fun cs=> .v (.vref cs 0)
 | .func f=>some (.v (.func (.func f) [] []))
end
def bJ:Option TV->Option IV
 |some (.v x)=>some x
 |_=>none
def mL:List (Option TV)->Option (Y14)
 | []=>some []
 |x::r=>match bJ x,mL r with
  |some v,some vs=>some (v::vs)
  |_,_=>none
def hJ:List (Nat×Option TV)->Option (List (Nat×IV))
 | []=>some []
 | (i,x)::r=>match bJ x,hJ r with
  |some v,some vs=>some ((i,v)::vs)
  |_,_=>none
def jJ:Operand->Bool
 | .const _=>true
 |_=>false
def min2:IV->IV->Option IV
 | .int k x,.int _ y=>some (.int k (if y<x then y else x))
 |_,_=>none
def max2:IV->IV->Option IV
 | .int k x,.int _ y=>some (.int k (if y>x then y else x))
 |_,_=>none
def tV(f:IV->IV->Option IV):IV->Y14->Option IV
 |x,[]=>some x
 |x,y::r=>match f x y with
  |some z=>tV f z r
  |none=>none
def kX(n:Nat):TV->Option TV
 | .l s off=>some (.l s (off+n))
 | .v (.ptr id off)=>some (.v (.ptr id (off+n)))
 | .v (.vref cs off)=>some (.v (.vref cs (off+n)))
 |_=>none
def tW(P:Program)(t:TypeId):Option Bool:=
 match P.underlying t with
 |some (.interface _)=>some true
 |some _=>some false
 |none=>none
section
variable (E:Env) (f:FuncId) (o:Oper) (ev:Operand->Option TV) (lv:Nat->Option (Y14)) (h:Heap)
def c2A:Bool:=match o.dst with
 |some d=>E.fm f d
 |none=>false
def eA:Option (TV×Option (Y14)):=
 match o.op with
 | .move x=>if c2A E f o=true then none else(ev x).map (·,none)
 | .assign x=>(ev x).map (·,none)
 | .pick c a b=>match ev c with
  |some (.v (.bool true))=>(ev a).map (·,none)
  |some (.v (.bool false))=>(ev b).map (·,none)
  |_=>none
 | .alloc t=>match o.dst with
  |some d=>if E.bx f d=0 then(dB E.P t).map fun z=>(.l d 0,some (cellsOf z))else none
  |none=>none
 | .box _ x=>match o.dst,bJ (ev x)with
  |some d,some v=>if E.bx f d=0/\oE v=true then some (.l d 0,some (cellsOf v))else none
  |_,_=>none
 | .build t parts=>
  match dB E.P t,hJ (parts.toList.map fun(i,x)=>(i,ev x))with
  |some z,some ps=>
   match E.P.underlying t with
   |some (.struct fs)=>if fs.toList.all (fun x=>(E.P.info? x.type).isSome)then(lV (zI E.P fs) (cellsOf z) ps).map fun cs=>(.v (.agg cs),none)else none
   |some (.array _ e)=>match fX E.P e with
    |some n=>(lV (fun i=>some (i*n,n)) (cellsOf z) ps).map fun cs=>(.v (.agg cs),none)
    |none=>none
   |_=>none
  |_,_=>none
 | .buildSlice t n parts=>match E.P.underlying t,o.dst with
  |some (.slice e),some d=>if E.A f d=0 then match fX E.P e,dB E.P e,hJ (parts.toList.map fun(i,x)=>(i,ev x))with
   |some (sz+1),some z,some ps=>if n*(sz+1)<=16777216/\(cellsOf z).length=sz+1 then
    (lV (fun i=>some (i*(sz+1),sz+1)) (fQ n (cellsOf z)) ps).map fun cs=>(.v (.vslice none 1 n (sz+1) (match E.nf f with|true=>mK (rep n (sI E.P 8 e)) cs|false=>cs)),none)
    else none
   |_,_,_=>none
   else none
  |_,_=>none
 | .load t a=>match ev a with
  |some (.v (.vref cs off))=>(eU E.P t cs off).map fun v=>(.v v,none)
  |_=>none
 | .nilCheck x=>match ev x with
  |some (.l s off)=>some (.l s off,none)
  |some (.v (.ptr id off))=>some (.v (.ptr id off),none)
  |some (.v (.vref cs off))=>some (.v (.vref cs off),none)
  |some (.v (.func (.func g) a b))=>some (.v (.func (.func g) a b),none)
  |some (.v (.iface t v))=>some (.v (.iface t v),none)
  |_=>none
 | .binOp op t x y _=>match bJ (ev x),bJ (ev y)with
  |some a,some b=>(lW E.P op (jJ x||jJ y) t a b).map fun v=>(.v v,none)
  |_,_=>none
 | .unOp op _ x=>match bJ (ev x)with
  |some a=>(c1Z op a).map fun v=>(.v v,none)
  |none=>none
 | .convert s d x=>match bJ (ev x)with
  |some a=>(R7 E.P s d a).map fun v=>(.v v,none)
  |none=>none
 | .makeInterface t x=>match tW E.P t,bJ (ev x)with
  |some false,some a=>some (.v (.iface t a),none)
  |_,_=>none
 | .makeFunc fn a b=>match mL (a.toList.map ev),mL (b.toList.map ev)with
  |some xs,some ys=>some (.v (.func fn xs ys),none)
  |_,_=>none
 | .slice t x lo hi mx=>match mx,bJ (ev x)with
  |none,some a=>(oF E.P t a (lo.map ev) (hi.map ev)).map fun v=>(.v v,none)
  |_,_=>none
 | .fieldAddr t x i=>match zH E.P t i,ev x with
  |some (ft,off),some a=>match fX E.P ft with
   |some (_+1)=>(kX off a).map (·,none)
   |_=>none
  |_,_=>none
 | .field t x i=>match zH E.P t i,bJ (ev x)with
  |some (ft,off),some (.agg cs)=>(eU E.P ft cs off).map fun v=>(.v v,none)
  |_,_=>none
 | .indexAddr t x ix=>match J5 (ev ix),E.P.underlying t with
  |some i,some (.array n e)=>match fX E.P e,ev x with
   |some sz,some a=>if 0<=i/\i<n then(kX (i.toNat*sz) a).map (·,none)else none
   |_,_=>none
  |some i,some (.slice e)=>match fX E.P e,bJ (ev x)with
   |some sz,some (.vslice _ _ len z cs)=>if 0<=i/\i<len/\z=sz then some (.v (.vref cs (i.toNat*sz)),none)else none
   |some sz,some (.hslice id off len z)=>if 0<=i/\i<len/\z=sz then some (.v (.ptr id (off+i.toNat*sz)),none)else none
   |_,_=>none
  |_,_=>none
 | .index t x ix=>match J5 (ev ix),E.P.underlying t,bJ (ev x)with
  |some i,some (.array n e),some (.agg cs)=>match fX E.P e with
   |some sz=>if 0<=i/\i<n then(eU E.P e cs (i.toNat*sz)).map fun v=>(.v v,none)else none
   |none=>none
  |some i,some .string,some (.str s)=>if 0<=i then(s[i.toNat]?).map fun b=>(.v (.int .u8 b.toNat),none)else none
  |_,_,_=>none
 | .extract x i=>match bJ (ev x)with
  |some (.tuple vs)=>(vs[i]?).map fun v=>(.v v,none)
  |_=>none
 | .typeAssert x _ t ok=>match tW E.P t,bJ (ev x)with
  |some false,some (.iface u v)=>
   if u=t then(if ok then some (.v (.tuple [v,.bool true]),none)else some (.v v,none))
   else if ok then(dB E.P t).map fun z=>(.v (.tuple [z,.bool false]),none)else none
  |some false,some .nilIface=>if ok then(dB E.P t).map fun z=>(.v (.tuple [z,.bool false]),none)else none
  |_,_=>none
 | .call {callee:= .builtin .len,args,argTypes } =>
  match argTypes[0]?,(args[0]?).bind fun x=>bJ (ev x)with
  |some t,some x=>
   match E.P.underlying t,x with
   |some .string,.str s=>some (.v (.int .i64 s.length),none)
   |some (.slice _),.nilslice=>some (.v (.int .i64 0),none)
   |some (.slice _),.hslice _ _ len _=>some (.v (.int .i64 len),none)
   |some (.slice _),.vslice _ _ len _ _=>some (.v (.int .i64 len),none)
   |some (.map _ _),.nilmap=>some (.v (.int .i64 0),none)
   |some (.array n _),_=>some (.v (.int .i64 n),none)
   |_,_=>none
  |_,_=>none
 | .call {callee:= .builtin .min,args,.. } =>match mL (args.toList.map ev)with
  |some (x::r)=>(tV min2 x r).map fun v=>(.v v,none)
  |_=>none
 | .call {callee:= .builtin .max,args,.. } =>match mL (args.toList.map ev)with
  |some (x::r)=>(tV max2 x r).map fun v=>(.v v,none)
  |_=>none
 |_=>none
def fR:Option TV:=
 match o.op with
 | .load t a=>match ev a with
  |some (.l s off)=>match lv s with
   |some cs=>(eU E.P t cs off).map .v
   |none=>none
  |_=>none
 |_=>none
def gJ:Option (Nat×Y14):=
 match o.op with
 | .store t a x=>match ev a,bJ (ev x)with
  |some (.l s off),some v=>match lv s with
   |some cs=>(K7 E.P t cs off v).map (s,·)
   |none=>none
  |_,_=>none
 |_=>none
def lX:TypeDesc->IV->Bool
 | .bool,.bool _=>true
 | .int _,.int _ _=>true
 | .string,.str _=>true
 |_,_=>false
def eV(d:TypeDesc)(k:IV):List (IV×IV)->Option (Option IV)
 | []=>some none
 | (x,v)::r=>match dR d k x with
  |some true=>some (some v)
  |some false=>eV d k r
  |none=>none
def pJ(d:TypeDesc)(k v:IV):List (IV×IV)->Option (List (IV×IV))
 | []=>some [(k,v)]
 | (x,u)::r=>match dR d k x with
  |some true=>some ((k,v)::r)
  |some false=>(pJ d k v r).map ((x,u):: ·)
  |none=>none
def lY(d:TypeDesc)(k:IV):List (IV×IV)->Nat
 | []=>0
 | (x,_)::r=>match dR d k x with
  |some true=>0
  |_=>lY d k r+1
def K8(v:IV):Nat->List (IV×IV)->List (IV×IV)
 |_,[]=>[]
 |0,(k,_)::r=>(k,v)::r
 |n+1,e::r=>e::K8 v n r
def Yo(d:TypeDesc)(k z:IV)(g:List (IV×IV)):Option (IV×Nat×List (IV×IV)):=match eV d k g with
 |some (some v)=>(pJ d k v g).map fun es'=>(v,lY d k g,es')
 |some none=>some (z,g.length,g++ [(k,z)])
 |none=>none
def dO:Option TV:=
 match o.op with
 | .load t a=>match ev a with
  |some (.v (.ptr id off))=>match h.get id with
   | .cells cs=>(eU E.P t cs off).map .v
   |_=>none
  |_=>none
 | .convert s d x=>match E.P.underlying s,E.P.underlying d,bJ (ev x)with
  |some (.slice e),some .string,some (.hslice id off len 1)=>match E.P.underlying e,h.get id with
   |some (.int .u8),.cells cs=>if off+len<=cs.length then(fW ((cs.drop off).take len)).map fun b=> .v (.str b)else none
   |_,_=>none
  |_,_,_=>none
 | .slice t x lo hi mx=>match mx,E.P.underlying t,ev x with
  |none,some (.array n e),some (.v (.ptr id off))=>match h.get id,fX E.P e with
   | .cells cs,some (sz+1)=>if off+n*(sz+1)<=cs.length then(gI n (lo.map ev) (hi.map ev)).map fun(l,k)=> .v (.hslice id (off+l*(sz+1)) (k-l) (sz+1))else none
   |_,_=>none
  |_,_,_=>none
 | .lookup t x k ok=>match E.P.underlying t,bJ (ev x),bJ (ev k)with
  |some (.map kt et),some m,some key=>
   match E.P.underlying kt,(match m with| .nilmap=>some []| .map id=>(match h.get id with| .map es=>some es|_=>none)|_=>none)with
   |some d,some es=>if lX d key then match eV d key es with
    |some (some v)=>some (.v (if ok then .tuple [v,.bool true]else v))
    |some none=>(dB E.P et).map fun z=> .v (if ok then .tuple [z,.bool false]else z)
    |none=>none
    else none
   |_,_=>none
  |_,_,_=>none
 | .call {callee:= .builtin .len,args,argTypes } =>
  match argTypes[0]?,(args[0]?).bind fun x=>bJ (ev x)with
  |some t,some (.map id)=>match E.P.underlying t,h.get id with
   |some (.map _ _),.map es=>some (.v (.int .i64 es.length))
   |_,_=>none
  |_,_=>none
 |_=>none
def fL(sz:Nat)(x:IV):Option (Nat×Y14):=
 match x with
 | .nilslice=>some (0,[])
 | .vslice _ _ len z cs=>if z=sz then some (len,cs)else none
 | .hslice id off len z=>if z=sz then(match h.get id with
  | .cells cs=>if off+len*sz<=cs.length then some (len,(cs.drop off).take (len*sz))else none
  |_=>none)else none
 | .str s=>if sz=1 then some (s.length,s.map fun b=> .int .u8 b.toNat)else none
 |_=>none
def newRow(g len sz:Nat)(cs:Y14):IV×Heap:=
 if g=0 then(.vslice (some h.next) (len*sz) len sz cs,h.push (.tip (len*sz)))
 else(.hslice h.next 0 len sz,h.push (.cells cs))
def jN(i sz g:Nat)(s x:IV):Option (IV×Heap):=
 match fL h sz x with
 |some (n,xs)=>
  if n=0 then(match s with
   | .nilslice=>some (.nilslice,h)
   | .vslice id e len z cs=>if z=sz then some (.vslice id e len z cs,h)else none
   | .hslice id off len z=>if z=sz then some (.hslice id off len z,h)else none
   |_=>none)
  else match s with
   | .nilslice=>if n*g<=140737488355328 then some (newRow h i n sz xs)else none
   | .vslice none 1 len z cs=>if z=sz/\(len+n)*g<=140737488355328 then some (newRow h i (len+n) sz (cs++xs))else none
   | .vslice (some id) e len z cs=>
    match h.get id with
    | .tip m=>if m=e/\z=sz/\(len+n)*g<=140737488355328 then some (.vslice (some id) (e+n*sz) (len+n) sz (cs++xs),h.set id (.tip (e+n*sz)))else none
    |_=>none
   | .hslice id off len z=>
    match h.get id with
    | .cells cs=>if off=0/\z=sz/\len*sz<=cs.length/\(len+n)*g<=140737488355328 then some (.hslice h.next 0 (len+n) sz,(h.set id .dead).push (.cells (cs.take (len*sz)++xs)))else none
    |_=>none
   |_=>none
 |none=>none
def kM:TypeDesc->Bool
 | .slice _=>true
 | .string=>true
 |_=>false
def fZ:Option (Option TV×Heap):=
 match o.op with
 | .move x=>if c2A E f o=true then match bJ (ev x)with
   |some (.hslice id off len sz)=>match h.get id with
    | .cells cs=>if 0<sz/\off+len*sz<=cs.length then some (some (.v (.vslice none 0 len sz ((cs.drop off).take (len*sz)))),h.set id .dead)else none
    |_=>none
   |_=>none
  else none
 | .alloc t=>match o.dst with
  |some d=>if E.bx f d=0 then none else(dB E.P t).map fun z=>(some (.v (.ptr h.next 0)),h.push (.cells (cellsOf z)))
  |none=>none
 | .box _ x=>match o.dst,bJ (ev x)with
  |some d,some v=>if E.bx f d=0 then none else if oE v then some (some (.v (.ptr h.next 0)),h.push (.cells (cellsOf v)))else none
  |_,_=>none
 | .buildSlice t n parts=>match E.P.underlying t,o.dst with
  |some (.slice e),some d=>if E.A f d=0 then none else match fX E.P e,dB E.P e,hJ (parts.toList.map fun(i,x)=>(i,ev x))with
   |some (sz+1),some z,some ps=>if n*(sz+1)<=16777216/\(cellsOf z).length=sz+1 then
    (lV (fun i=>some (i*(sz+1),sz+1)) (fQ n (cellsOf z)) ps).map fun cs=>let r:=newRow h (E.A f d) n (sz+1) cs; (some (.v r.1),r.2)
    else none
   |_,_,_=>none
  |_,_=>none
 | .makeSlice t l c=>match E.P.underlying t,o.dst,J5 (ev l),J5 (ev c)with
  |some (.slice e),some d,some l,some c=>match fX E.P e,gY E.P e,dB E.P e with
   |some (sz+1),some bytes,some z=>
    if 0<=l/\l<=c/\c<=9223372036854775807/\bytes*c<=140737488355328/\(cellsOf z).length=sz+1 then
     let r:=newRow h (1-E.A f d) l.toNat (sz+1) (fQ l.toNat (cellsOf z));some (some (.v r.1),r.2)
    else none
   |_,_,_=>none
  |_,_,_,_=>none
 | .makeMap _ r=>match r with
  |none=>some (some (.v (.map h.next)),h.push (.map []))
  |some _=>none
 | .convert s d x=>match E.P.underlying s,E.P.underlying d,o.dst,bJ (ev x)with
  |some _,some (.slice e),some dst,some (.str b)=>match E.P.underlying e with
   |some (.int .u8)=>let r:=newRow h (E.A f dst) b.length 1 (b.map fun c=> .int .u8 c.toNat);some (some (.v r.1),r.2)
   |_=>none
  |_,_,_,_=>none
 | .store t a x=>match ev a,bJ (ev x)with
  |some (.v (.ptr id off)),some v=>match h.get id with
   | .cells cs=>(K7 E.P t cs off v).map fun cs'=>(none,h.set id (.cells cs'))
   |_=>none
  |_,_=>none
 | .mapUpdate t m k x=>match E.P.underlying t,bJ (ev m),bJ (ev k),bJ (ev x)with
  |some (.map kt _),some (.map id),some key,some v=>match E.P.underlying kt,h.get id with
   |some d,.map es=>if lX d key then(pJ d key v es).map fun es'=>(none,h.set id (.map es'))else none
   |_,_=>none
  |_,_,_,_=>none
 | .mapEntry t m k=>match E.P.underlying t,bJ (ev m),bJ (ev k)with
  |some (.map kt et),some (.map id),some key=>match E.P.underlying kt,h.get id,dB E.P et with
   |some d,.map es,some z=>if lX d key then(Yo d key z es).map fun r=>(some (.v (.tuple [r.1,.int .i64 r.2.1])),h.set id (.map r.2.2))else none
   |_,_,_=>none
  |_,_,_=>none
 | .entryStore _ m s x=>match bJ (ev m),bJ (ev s),bJ (ev x)with
  |some (.map id),some (.int _ n),some v=>match h.get id with
   | .map es=>if 0<=n/\n<es.length then some (none,h.set id (.map (K8 v n.toNat es)))else none
   |_=>none
  |_,_,_=>none
 | .call {callee:= .builtin .append,args,argTypes } =>
  match argTypes.toList,args.toList with
  | [t,u],[sx,xx]=>match bJ (ev sx),bJ (ev xx),E.P.underlying t,E.P.underlying u,o.dst with
   |some s,some x,some (.slice e),some du,some d=>match fX E.P e,gY E.P e,dB E.P e with
    |some (sz+1),some (bytes+1),some z=>if(cellsOf z).length=sz+1/\kM du=true then(jN h (E.A f d) (sz+1) (bytes+1) s x).map fun r=>(some (.v r.1),r.2)else none
    |_,_,_=>none
   |_,_,_,_,_=>none
  |_,_=>none
 | .call {callee:= .builtin .copy,args,argTypes } =>
  match argTypes.toList,args.toList with
  |t::_,[sx,xx]=>match bJ (ev sx),bJ (ev xx),E.P.underlying t with
   |some (.hslice id off len z),some x,some (.slice e)=>match fX E.P e,h.get id with
    |some (sz+1),.cells cs=>match fL h (sz+1) x with
     |some (n,xs)=>if z=sz+1/\off+len*z<=cs.length then
       some (some (.v (.int .i64 ((min n len:Nat):Int))),h.set id (.cells (spl cs off (xs.take (min n len*(sz+1))))))
      else none
     |none=>none
    |_,_=>none
   |_,_,_=>none
  |_,_=>none
 |_=>none
def b3A(sz:Nat)(x:IV):Option (Nat×Y14):=
 match x with
 | .nilslice=>some (0,[])
 | .vslice _ _ len z cs=>if z=sz then some (len,cs)else none
 | .str s=>if sz=1 then some (s.length,s.map fun b=> .int .u8 b.toNat)else none
 |_=>none
def sR(n g len sz:Nat)(cs:Y14):IV:=if g=0 then .vslice (some n) (len*sz) len sz cs else .hslice n 0 len sz
def oG(g len sz:Nat)(cs:Y14):IObj:=if g=0 then .tip (len*sz)else .cells cs
def zJ(n:Nat):Option (Option TV×Option IObj):=
 match o.op with
 | .alloc t=>match o.dst with
  |some d=>if E.bx f d=0 then none else(dB E.P t).map fun z=>(some (.v (.ptr n 0)),some (.cells (cellsOf z)))
  |none=>none
 | .makeSlice t l c=>match E.P.underlying t,o.dst,J5 (ev l),J5 (ev c)with
  |some (.slice e),some d,some l,some c=>match fX E.P e,gY E.P e,dB E.P e with
   |some (sz+1),some bytes,some z=>
    if 0<=l/\l<=c/\c<=9223372036854775807/\bytes*c<=140737488355328/\(cellsOf z).length=sz+1/\(1-E.A f d=0->0<l.toNat)then
     some (some (.v (sR n (1-E.A f d) l.toNat (sz+1) (fQ l.toNat (cellsOf z)))),some (oG (1-E.A f d) l.toNat (sz+1) (fQ l.toNat (cellsOf z))))
    else none
   |_,_,_=>none
  |_,_,_,_=>none
 | .makeMap _ r=>match r with
  |none=>some (some (.v (.map n)),some (.map []))
  |some _=>none
 | .call {callee:= .builtin .append,args,argTypes } =>
  match argTypes.toList,args.toList with
  | [t,u],[sx,xx]=>match bJ (ev sx),bJ (ev xx),E.P.underlying t,E.P.underlying u,o.dst with
   |some .nilslice,some x,some (.slice e),some du,some d=>match fX E.P e,gY E.P e,dB E.P e with
    |some (sz+1),some (bytes+1),some z=>if(cellsOf z).length=sz+1/\kM du=true then match b3A (sz+1) x with
      |some (k,xs)=>if k=0 then some (some (.v .nilslice),none)
       else if k*(bytes+1)<=140737488355328 then some (some (.v (sR n (E.A f d) k (sz+1) xs)),some (oG (E.A f d) k (sz+1) xs))else none
      |none=>none
     else none
    |_,_,_=>none
   |_,_,_,_,_=>none
  |_,_=>none
 |_=>none
def iX:Y10:=match o.op with
 | .load _ a=>match ev a with
  |some (.v (.ptr id _))=>some id
  |_=>none
 | .convert _ _ x=>match bJ (ev x)with
  |some (.hslice id _ _ _)=>some id
  |_=>none
 | .slice _ x _ _ _=>match ev x with
  |some (.v (.ptr id _))=>some id
  |_=>none
 | .lookup _ x _ _=>match bJ (ev x)with
  |some (.map id)=>some id
  |_=>none
 | .call {callee:= .builtin .len,args,.. } =>match(args[0]?).bind fun x=>bJ (ev x)with
  |some (.map id)=>some id
  |_=>none
 |_=>none
def dM:Option (FuncId×Y14):=
 match o.op with
 | .call {callee:= .value x,args,.. } =>match ev x,mL (args.toList.map ev)with
  |some (.v (.func (.func g) a b)),some xs=>some (g,a++xs++b)
  |_,_=>none
 |_=>none
end
def Fr.put(g:Fr)(d:Option Tmp)(v:Option TV):Fr:=
 match d with
 |some t=> {g with tm:=g.tm.set t v }
 |none=>g
def qA(s:Nat):TV->Bool
 | .l s' _=>s' !=s
 |_=>true
def Fr.box(g:Fr)(s:Nat)(cs:Y14):Fr:= {tm:=g.tm.filt (qA s),lv:=g.lv.set s (some cs) }
def Iu(E:Env)(f:FuncId)(o:Oper):Y10:=
 match o.op with
 | .alloc _=>match o.dst with
  |some d=>if E.bx f d=0 then some d else none
  |none=>none
 | .box _ _=>match o.dst with
  |some d=>if E.bx f d=0 then some d else none
  |none=>none
 |_=>none
def Fr.forget(g:Fr):List Nat->Fr
 | []=>g
 |s::r=>Fr.forget {tm:=g.tm.filt (qA s),lv:=g.lv.set s none } r
def Fr.start(E:Env)(f:FuncId)(ops:List Oper)(draw:Bool)(g:Fr):Fr:=if draw then g.forget (ops.filterMap (Iu E f))else g
structure Met where
 e:Nat:=0
 r:Nat:=0
 s:Nat:=0
 l:Nat:=0
 a:Nat:=0
 deriving Inhabited
inductive Cls where
 |p|l|s|r|e|b|a
 deriving DecidableEq,Inhabited
def oH(b:Bool):Cls:=match b with
 |true=> .p
 |false=> .e
def Yp(i:Nat):Nat:=2^i
def Met.chk(m:Met):Cls->Nat
 | .p=>0
 | .b=>0
 | .l=>m.s
 | .s=>m.s|||m.l
 | .r=>m.e
 | .e=>m.e|||m.r|||m.a
 | .a=>m.e
def Met.add(m:Met)(c:Cls)(i:Nat):Met:=
 match c with
 | .p=>m
 | .b=>m
 | .l=> {m with l:=m.l|||Yp i }
 | .s=> {m with s:=m.s|||Yp i }
 | .r=> {m with r:=m.r|||Yp i }
 | .e=> {m with e:=m.e|||Yp i }
 | .a=> {m with a:=m.a|||Yp i }
def dJ(ops:List Oper)(g:Nat->Option TV)(o:Oper):Option Bool:=
 match o.guard with
 |none=>some true
 |some (j,b)=>match(ops[j]?).bind (·.dst)with
  |some d=>match g d with
   |some (.v (.bool x))=>some (x==b)
   |some .u=>some false
   |_=>none
  |none=>none
def iK(m b:Nat):Bool:=(m&&&b)==m
structure Ef where
 c:Cls
 v:Option TV
 loc:Option (Nat×Y14)
 box:Bool
 h:Heap
mutual
def Iv:IV->IV->Bool
 | .bool a,.bool b=>a==b
 | .int k n,.int k' n'=>decide (k=k') &&n==n'
 | .str a,.str b=>a==b
 | .nilptr,.nilptr=>true
 | .ptr a b,.ptr c d=>Nat.beq a c&&Nat.beq b d
 | .nilslice,.nilslice=>true
 | .hslice a b c d,.hslice a' b' c' d'=>Nat.beq a a'&& (Nat.beq b b'&& (Nat.beq c c'&&Nat.beq d d'))
 | .vslice i e n z cs,.vslice i' e' n' z' cs'=>decide (i=i') && (Nat.beq e e'&& (Nat.beq n n'&& (Nat.beq z z'&&mV cs cs')))
 | .nilmap,.nilmap=>true
 | .map a,.map b=>Nat.beq a b
 | .nilfunc,.nilfunc=>true
 | .nilIface,.nilIface=>true
 | .agg a,.agg b=>mV a b
 | .tuple a,.tuple b=>mV a b
 | .vref a o,.vref b o'=>Nat.beq o o'&&mV a b
 | .func f a c,.func g b d=>decide (f=g) && (mV a b&&mV c d)
 | .iface t a,.iface u b=>decide (t=u) &&Iv a b
 |_,_=>false
def mV:Y14->Y14->Bool
 | [],[]=>true
 |a::r,b::q=>Iv a b&&mV r q
 |_,_=>false
end
def b3B:TV->TV->Bool
 | .v a,.v b=>Iv a b
 |_,_=>false
abbrev Pd:=List (Nat×(Heap->Bool))
def Iw(m:Met)(g:Pd)(b:Nat)(e:Ef):Bool:=match e.c with
 | .e=>iK (m.e|||m.a) b&&g.all (fun p=>b.testBit p.1||p.2 e.h)
 |_=>false
section
variable (E:Env) (f:FuncId) (cf:FuncId->Y14->Heap->Option (IV×Heap)) (ops:List Oper) (draw:Bool) (bef:Nat->Nat)
def dX(o:Oper)(ev:Operand->Option TV)(lv:Nat->Option (Y14))(h:Heap):Option Ef:=
 match eA E f o ev with
 |some (v,bx)=>match bx,o.dst with
  |some cs,some d=>if draw then(match lv d with
   |none=>some ⟨.b,some v,some (d,cs),false,h⟩
   |some _=>none)else some ⟨.p,some v,some (d,cs),true,h⟩
  |none,_=>some ⟨.p,some v,none,false,h⟩
  |_,_=>none
 |none=>
 match fR E o ev lv with
 |some v=>some ⟨.l,some v,none,false,h⟩
 |none=>
 match gJ E o ev lv with
 |some (s,cs)=>some ⟨.s,none,some (s,cs),false,h⟩
 |none=>
 match dO E o ev h with
 |some v=>some ⟨.r,some v,none,false,h⟩
 |none=>
 match fZ E f o ev h with
 |some (v,h')=>some ⟨.e,v,none,false,h'⟩
 |none=>
 match dM o ev with
 |some (g,xs)=>match cf g xs h with
  |some (v,h')=>some ⟨oH (E.iso g),some (.v v),none,false,h'⟩
  |none=>none
 |none=>none
def sS(o:Oper)(g:Nat->Option TV)(lv:Nat->Option (Y14))(h:Heap):Option Ef:=
 match dJ ops g o with
 |none=>none
 |some false=>some ⟨.p,some .u,none,false,h⟩
 |some true=>dX E f cf draw o (bD E g) lv h
def dK(rs:Y10)(o:Oper)(g:Nat->Option TV)(lv:Nat->Option (Y14))(h:Heap):Option Ef:=
 match rs with
 |none=>sS E f cf ops draw o g lv h
 |some n=>match dJ ops g o with
  |none=>none
  |some false=>some ⟨.p,some .u,none,false,h⟩
  |some true=>match zJ E f o (bD E g) n with
   |some (v,none)=>some ⟨.p,v,none,false,h⟩
   |some (v,some x)=>match h.get n with
    | .free=>some ⟨.a,v,none,false,h.set n x⟩
    |_=>none
   |none=>none
def Ix:Nat->List Nat->Nat->Y10
 |_,[],_=>none
 |k,j::r,i=>match Nat.beq i j with
  |true=>some k
  |false=>Ix (k+1) r i
def R8(g:List Nat)(rs:Nat->Y10)(m:Met)(b:Nat)(id:Y10)(c:Cls):Bool:=match c with
 | .r=>g.all fun j=>b.testBit j|| (!(m.a.testBit j)|| (match rs j,id with
  |some n,some k=>!(Nat.beq n k)
  |_,_=>true))
 |_=>true
def okB(g:List Nat)(rs:Nat->Y10)(m:Met)(i:Pd)(b:Nat)(id:Y10)(e:Ef):Bool:=(iK (m.chk e.c) b||Iw m i b e) &&R8 g rs m b id e.c
def Fr.app(g:Fr)(d:Option Tmp)(e:Ef):Fr:=
 match e.loc with
 |some (s,cs)=>if e.box then(g.box s cs).put d e.v else {g.put d e.v with lv:=g.lv.set s (some cs) }
 |none=>g.put d e.v
def kY(o:Oper)(ev:Operand->Option TV)(e:Ef)(i:Nat)(g:Pd):Pd:=match e.c with
 | .r=>(i,fun h2=>match dO E o ev h2,e.v with
  |some v2,some v=>b3B v2 v
  |_,_=>false)::g
 |_=>g
def kZ(g:List Nat)(rs:Nat->Y10):List (Oper×Nat)->Met->Pd->Fr->Heap->Option (Fr×Heap)
 | [],_,_,fr,h=>some (fr,h)
 | (o,i)::r,m,pd,fr,h=>match dK E f cf ops draw (rs i) o fr.tm.get fr.lv.get h with
  |some e=>if !draw||okB g rs m pd (bef i) (iX o (bD E fr.tm.get)) e then kZ g rs r (m.add e.c i) (kY E o (bD E fr.tm.get) e i pd) (fr.app o.dst e) e.h else none
  |none=>none
end
inductive Ex where
 |normal
 |exit (id:Nat)
 |ret
 deriving DecidableEq,Inhabited
def iM(g:Fr->Heap->Option (Ex×Fr×Heap)):Nat->Fr->Heap->Option (Ex×Fr×Heap)
 |0,_,_=>none
 |n+1,fr,h=>match g fr h with
  |some (.normal,fr',h')=>iM g n fr' h'
  |r=>r
def zV(ops:Array Oper):Nat->Nat:=fun i=>(Region.before ops).getD i 0
def pK(ops:List Oper)(p q:Oper×Nat):Bool:=Nat.blt p.2 q.2|| (!Nat.beq p.2 q.2&& (p.1.after.toList.all fun e=>!Nat.beq e.on q.2) &&Oper.apart ops.toArray p.1 q.1)
def zW(ops:List Oper):List (Oper×Nat)->Bool
 | []=>true
 |p::r=>r.all (pK ops p) &&zW ops r
def xX(ops:List Oper)(l:List Nat):List (Oper×Nat):=l.filterMap fun i=>ops[i]?.map fun o=>(o,i)
def wB(l:List Nat)(draw:Bool)(ops:List Oper):List (Oper×Nat):=match draw,l with
 |true,i::r=>match Nat.ble (i::r).length ops.length&& (List.range ops.length).all (fun j=>(i::r).contains j) &&zW ops (xX ops (i::r))with
  |true=>xX ops (i::r)
  |false=>ops.zipIdx
 |_,_=>ops.zipIdx
section
variable (E:Env) (f:FuncId) (cf:FuncId->Y14->Heap->Option (IV×Heap)) (n:Nat)
def dP:Code->Fr->Heap->Option (Ex×Fr×Heap)
 | .skip,fr,h=>some (.normal,fr,h)
 | .region id ops draw,fr,h=>match kZ E f cf ops.toList draw (zV ops) (E.an f id) (Ix h.next (E.an f id)) (wB (E.od f id) draw ops.toList) {} [] (fr.start E f ops.toList draw) (h.reserve (E.an f id).length)with
  |some (fr',h')=>some (.normal,fr',h')
  |none=>none
 | .seq a b,fr,h=>match dP a fr h with
  |some (.normal,fr',h')=>dP b fr' h'
  |r=>r
 | .cond c a b,fr,h=>match bD E fr.tm.get c with
  |some (.v (.bool true))=>dP a fr h
  |some (.v (.bool false))=>dP b fr h
  |_=>none
 | .block id c,fr,h=>match dP c fr h with
  |some (.exit id',fr',h')=>if id'=id then some (.normal,fr',h')else some (.exit id',fr',h')
  |r=>r
 | .loop c,fr,h=>iM (dP c) n fr h
 | .exit id,fr,h=>some (.exit id,fr,h)
 | .scope c,fr,h=>dP c fr h
 | .ret,fr,h=>some (.ret,fr,h)
 |_,_,_=>none
end
def tX(P:Program)(g:Fr)(h:Heap):ResultVar->Option IV
 | .tmp t=>bJ (g.tm.get t)
 | .cell a t=>match g.tm.get a with
  |some (.l s off)=>match g.lv.get s with
   |some cs=>eU P t cs off
   |none=>none
  |some (.v (.ptr id off))=>match h.get id with
   | .cells cs=>eU P t cs off
   |_=>none
  |_=>none
def gT(P:Program)(g:Fr)(h:Heap):List ResultVar->Option (Y14)
 | []=>some []
 |r::rs=>match tX P g h r,gT P g h rs with
  |some v,some vs=>some (v::vs)
  |_,_=>none
def iN:Y14->IV
 | [v]=>v
 |vs=> .tuple vs
def jK:Y14->Nat->PT TV->PT TV
 | [],_,t=>t
 |v::r,i,t=>jK r (i+1) (t.set i (some (.v v)))
def qB(h:Heap):IV->IV×Heap
 | .hslice id off len sz=>match h.get id with
  | .cells cs=>if 0<sz/\off+len*sz<=cs.length then(.vslice none 0 len sz ((cs.drop off).take (len*sz)),h.set id .dead)else(.hslice id off len sz,h)
  |_=>(.hslice id off len sz,h)
 |v=>(v,h)
def sT(g:Heap->IV->IV×Heap)(h:Heap):Y14->Y14×Heap
 | []=>([],h)
 |v::r=>
  let x:=g h v
  let y:=sT g x.2 r
  (x.1::y.1,y.2)
def zX(h:Heap):IV->IV×Heap
 | .agg cs=>let x:=sT qB h cs; (.agg x.1,x.2)
 |v=>qB h v
def d0K(h:Heap):IV->IV×Heap
 | .tuple vs=>let x:=sT zX h vs; (.tuple x.1,x.2)
 |v=>zX h v
def mW(h:Heap):IV->IV
 | .nilslice=> .vslice none 0 0 1 []
 | .vslice none _ len sz cs=> .vslice none 0 len sz cs
 | .hslice id off len sz=>match h.get id with
  | .cells cs=>if 0<sz/\off+len*sz<=cs.length then .vslice none 0 len sz ((cs.drop off).take (len*sz))else .hslice id off len sz
  |_=> .hslice id off len sz
 |v=>v
def tY(g:Heap):IV->Heap
 | .hslice id _ _ _=>match g.get id with
  | .cells _=>g.set id .dead
  |_=>g
 |_=>g
def Yq(g:Heap):Y14->Heap
 | []=>g
 |v::r=>Yq (tY g v) r
def Iy(h:Heap)(v:IV):IV×Heap:=match zX h v with
 | (.vslice none e len sz cs,h')=>(.vslice none e len sz (cs.map (mW h')),Yq h' cs)
 |y=>y
def wC(E:Env)(f:FuncId)(ts:List TypeId)(vs:Y14):Y14:=match E.nr f with
 |true=>gS E.P ts vs
 |false=>vs
def iO(E:Env)(f:FuncId)(v:IV)(h:Heap):IV×Heap:=if E.fz f then d0K h v else(v,h)
def gZ(E:Env)(f:FuncId)(cf:FuncId->Y14->Heap->Option (IV×Heap))(n:Nat)(rs:List ResultVar)(c:Code)(g:Y14)(h:Heap):Option (Y14×Heap):=
 match dP E f cf n c ⟨jK g 0 .nil,.nil⟩ h with
 |some (.normal,fr,h')=>(gT E.P fr h' rs).map (·,h')
 |some (.ret,fr,h')=>(gT E.P fr h' rs).map (·,h')
 |_=>none
def zY(E:Env)(f:FuncId)(vs:Y14)(h:Heap):Y14:=if E.fz f then(sT (if E.fd f=true then Iy else zX) h vs).1 else vs
def R9(E:Env)(f:FuncId)(ts:List TypeId)(vs:Y14)(h:Heap):Option IV:=
 let ws:=gS E.P ts (zY E f vs h)
 if aM ws then some (iN ws)else none
def iP(E:Env):Nat->FuncId->Y14->Heap->Option (IV×Heap)
 |0,_,_,_=>none
 |n+1,f,args,h=>
  match E.P.funcs[f]? with
  |some fn=>match fn.body with
   |some c=>match E.iso f with
    |false=>match gZ E f (iP E n) n fn.results.toList c (wC E f fn.params.toList args) h with
     |some (vs,h')=>some (iO E f (iN (wC E f fn.resultTypes.toList vs)) h')
     |none=>none
    |true=>if aM (gS E.P fn.params.toList args)then match gZ E f (iP E n) n fn.results.toList c (gS E.P fn.params.toList args) Heap.empty with
     |some (vs,h')=>(R9 E f fn.resultTypes.toList vs h').map (·,h)
     |none=>none
     else none
   |none=>none
  |none=>none
theorem iB(E:Env)(n:Nat)(f:FuncId)(g:Y14)(h:Heap):iP E (n+1) f g h=
 match E.P.funcs[f]? with
 |some fn=>match fn.body with
  |some c=>match E.iso f with
   |false=>match gZ E f (iP E n) n fn.results.toList c (wC E f fn.params.toList g) h with
    |some (vs,h')=>some (iO E f (iN (wC E f fn.resultTypes.toList vs)) h')
    |none=>none
   |true=>if aM (gS E.P fn.params.toList g)then match gZ E f (iP E n) n fn.results.toList c (gS E.P fn.params.toList g) Heap.empty with
    |some (vs,h')=>(R9 E f fn.resultTypes.toList vs h').map (·,h)
    |none=>none
    else none
  |none=>none
 |none=>none:=rfl
theorem Iz{n:Nat}{x:TV}{s g:Nat}(h:kX n x=some (.l s g)): ∃o,x= .l s o:=by
 unfold kX at h;split at h<;>simp at h
 exact⟨_,by rw [h.1]⟩
theorem Yr{E:Env}{f:FuncId}{o:Oper}{ev:Operand->Option TV}{s i:Nat}(h:eA E f o ev=some (.l s i,none)): ∃x j,ev x=some (.l s j):=by
 unfold eA at h;split at h
 case h_1 x hx=>
  split at h
  ·cases h
  ·obtain⟨y,g,h2⟩:=AD.1 h;simp at h2;subst h2;exact⟨_,_,g⟩
 case h_2 x hx=>obtain⟨y,g,h2⟩:=AD.1 h;simp at h2;subst h2;exact⟨_,_,g⟩
 case h_3 c a b hx=>
  split at h
  ·obtain⟨y,g,h2⟩:=AD.1 h;simp at h2;subst h2;exact⟨_,_,g⟩
  ·obtain⟨y,g,h2⟩:=AD.1 h;simp at h2;subst h2;exact⟨_,_,g⟩
  ·cases h
 all_goals (repeat' split at h)
 all_goals first
  | (cases h;done)
  | (exfalso;obtain⟨y,g,h2⟩:=AD.1 h;simp at h2;done)
  | (simp at h;done)
  | (obtain⟨y,g,h2⟩:=AD.1 h;simp only [BY,and_true]at h2;subst h2;obtain⟨j,rfl⟩:=Iz g;exact⟨_,_,by assumption⟩)
  | (simp only [AC,BY,TV.l.injEq,and_true]at h;obtain⟨rfl,rfl⟩:=h;exact⟨_,_,by assumption⟩)
theorem Ys{E:Env}{f:FuncId}{o:Oper}{ev:Operand->Option TV}{s g d:Nat}{cs:Y14}(h:eA E f o ev=some (.l s g,some cs))(hd:o.dst=some d):s=d:=by
 unfold eA at h
 repeat' split at h
 all_goals first
  | (cases h;done)
  | (simp at h;done)
  | (simp_all;done)
  | (obtain⟨y,i,h2⟩:=AD.1 h;simp at h2;done)
  | (obtain⟨y,i,h2⟩:=AD.1 h;simp_all;done)
theorem Yt{E:Env}{o:Oper}{ev:Operand->Option TV}{h:Heap}{tv:TV}(g:dO E o ev h=some tv): ∃x,tv= .v x:=by
 unfold dO at g
 repeat' split at g
 all_goals first
  | (cases g;done)
  | (obtain⟨y,_,h2⟩:=AD.1 g;exact⟨_,h2.symm⟩)
  | (simp only [AC]at g;exact⟨_,g.symm⟩)
theorem c2B{E:Env}{f:FuncId}{o:Oper}{ev:Operand->Option TV}{h:Heap}{q:Option TV×Heap}{tv:TV}(g:fZ E f o ev h=some q)(i:q.1=some tv): ∃x,tv= .v x:=by
 unfold fZ at g
 repeat' split at g
 all_goals first
  | (cases g;done)
  | (obtain⟨y,_,h2⟩:=AD.1 g;subst h2;simp at i;done)
  | (obtain⟨y,_,h2⟩:=AD.1 g;subst h2;simp only [AC]at i;exact⟨_,i.symm⟩)
  | (simp only [AC]at g;subst g;simp only [AC]at i;exact⟨_,i.symm⟩)
  | (simp only [AC]at g;subst g;simp at i;done)
theorem b9W{E:Env}{f:FuncId}{o:Oper}{ev:Operand->Option TV}{n:Nat}{q:Option TV×Option IObj}{tv:TV}(g:zJ E f o ev n=some q)(i:q.1=some tv): ∃x,tv= .v x:=by
 unfold zJ at g
 repeat' split at g
 all_goals first
  | (cases g;done)
  | (obtain⟨y,_,h2⟩:=AD.1 g;subst h2;simp only [AC]at i;exact⟨_,i.symm⟩)
  | (simp only [AC]at g;subst g;simp only [AC]at i;exact⟨_,i.symm⟩)
theorem Cc{g len sz:Nat}{cs:Y14} :oG g len sz cs≠ .free:=by
 unfold oG
 split<;>simp
theorem Yu{E:Env}{f:FuncId}{o:Oper}{ev:Operand->Option TV}{n:Nat}{v:Option TV}{x:IObj}(g:zJ E f o ev n=some (v,some x)):x≠ .free:=by
 unfold zJ at g
 repeat' split at g
 all_goals first
  | (cases g;done)
  | (obtain⟨y,_,h2⟩:=AD.1 g;simp only [BY,AC]at h2;rw [<-h2.2];simp;done)
  | (simp only [AC,BY]at g;rw [<-g.2];first|exact Cc|simp)
  | (simp at g;done)
structure Meta where
 nid:Nat
 loc:Nat->Y10
 tip:Nat->Nat
 cur:Nat->Nat×Nat
 im:Nat->Nat->Option Value
 bsz:Nat->Y10
inductive VR(M:Meta):IV->Value->Prop where
 |bool (b:Bool):VR M (.bool b) (.bool b)
 |int (k:IntKind) (n:Int):VR M (.int k n) (.int k n)
 |str (s:ByteArray):VR M (.str s.data.toList) (.string s)
 |nilptr:VR M .nilptr (.pointer none)
 |ptr {id off b:Nat} (hl:M.loc id=some b):VR M (.ptr id off) (.pointer (some ⟨b,off,none⟩))
 |vref {cs:Y14} {off b base:Nat} (rv:Nat->Value) (him: ∀i,i<cs.length->M.im b (base+i)=some (rv i))
  (hv: ∀(i:Nat)(h:i<cs.length),VR M cs[i] (rv i)) (hc: ∀(i:Nat)(h:i<cs.length),isCell cs[i]=true):VR M (.vref cs off) (.pointer (some ⟨b,base+off,none⟩))
 |nilslice:VR M .nilslice (.slice none 0 0)
 |vnil {sz:Nat} :VR M (.vslice none 0 0 sz []) (.slice none 0 0)
 |hslice {id off len sz cap b:Nat} (a:Addr) (hl:M.loc id=some b) (ha:cap=0\/ (a=⟨b,off,none⟩/\∃n,M.bsz b=some n/\off+cap*sz<=n)) (hlen:len<=cap):
  VR M (.hslice id off len sz) (.slice (some a) len cap)
 |vslice {id:Y10} {e len sz cap:Nat} {cs:Y14} (a:Addr) (rv:Nat->Value) (hn:cs.length=len*sz) (hlen:len<=cap)
  (ha:cap=0\/ (a.spot=none/\∃n,M.bsz a.block=some n/\a.off+cap*sz<=n))
  (him: ∀i,i<cs.length->M.im a.block (a.off+i)=some (rv i))
  (hv: ∀(i:Nat)(h:i<cs.length),VR M cs[i] (rv i)) (hc: ∀(i:Nat)(h:i<cs.length),isCell cs[i]=true)
  (ht: ∀i,id=some i->i<M.nid/\cs.length<=e/\e<=M.tip i/\(e=M.tip i->cap=0\/M.cur i=(a.block,a.off+cs.length)))
  (hf:id=none->e=0\/ (e=1/\cap=len/\0<sz)):
  VR M (.vslice id e len sz cs) (.slice (some a) len cap)
 |nilmap:VR M .nilmap (.map none)
 |map {id b:Nat} (hl:M.loc id=some b):VR M (.map id) (.map (some b))
 |func {fn:Fn} {xs ys:Y14} (rx ry:Array Value) (hx:xs.length=rx.size) (hy:ys.length=ry.size)
  (vx: ∀(i:Nat)(h:i<xs.length)(h':i<rx.size),VR M xs[i] rx[i]) (vy: ∀(i:Nat)(h:i<ys.length)(h':i<ry.size),VR M ys[i] ry[i]):VR M (.func fn xs ys) (.func fn rx ry)
 |nilfunc:VR M .nilfunc .nilFunc
 |iface {t:TypeId} {x:IV} {v:Value} (h:VR M x v):VR M (.iface t x) (.iface t v)
 |nilIface:VR M .nilIface .nilIface
 |agg {cs:Y14} (rc:Array Value) (hn:cs.length=rc.size) (hv: ∀(i:Nat)(h:i<cs.length)(h':i<rc.size),VR M cs[i] rc[i])
  (hc: ∀(i:Nat)(h:i<cs.length),isCell cs[i]=true):VR M (.agg cs) (.agg rc)
 |tuple {vs:Y14} (rc:Array Value) (hn:vs.length=rc.size) (hv: ∀(i:Nat)(h:i<vs.length)(h':i<rc.size),VR M vs[i] rc[i]):VR M (.tuple vs) (.tuple rc)
structure Ext(M M':Meta):Prop where
 nid:M.nid<=M'.nid
 loc: ∀id b,M.loc id=some b->M'.loc id=some b
 im: ∀b o v,M.im b o=some v->M'.im b o=some v
 bsz: ∀b n,M.bsz b=some n->M'.bsz b=some n
 tip: ∀i,i<M.nid->M.tip i<=M'.tip i
 cur: ∀i,i<M.nid->M.tip i=M'.tip i->M.cur i=M'.cur i
theorem Ext.refl(M:Meta):Ext M M:=⟨AJ _,fun _ _ h=>h,fun _ _ _ h=>h,fun _ _ h=>h,fun _ _=>AJ _,fun _ _ _=>rfl⟩
theorem Ext.trans{A B C:Meta}(h:Ext A B)(k:Ext B C):Ext A C where
 nid:=BK h.nid k.nid
 loc:=fun id b e=>k.loc _ _ (h.loc _ _ e)
 im:=fun b o v e=>k.im _ _ _ (h.im _ _ _ e)
 bsz:=fun b n e=>k.bsz _ _ (h.bsz _ _ e)
 tip:=fun i hi=>BK (h.tip i hi) (k.tip i (AI hi h.nid))
 cur:=fun i hi e=>by
  have g:=h.tip i hi;have h2:=k.tip i (AI hi h.nid);exact(h.cur i hi IM).trans (k.cur i (AI hi h.nid) IM)
theorem VR.mono{M M':Meta}(j:Ext M M'){x:IV}{r:Value}(h:VR M x r):VR M' x r:=by
 induction h with
 |bool b=>exact .bool b
 |int k n=>exact .int k n
 |str s=>exact .str s
 |nilptr=>exact .nilptr
 |ptr hl=>exact .ptr (j.loc _ _ hl)
 |vref rv him hv hc ih=>exact .vref rv (fun i hi=>j.im _ _ _ (him i hi)) ih hc
 |nilslice=>exact .nilslice
 |vnil=>exact .vnil
 |hslice a hl ha hlen=>
  refine .hslice a (j.loc _ _ hl) ?_ hlen;rcases ha with ha| ⟨ha,n,l,p⟩
  ·exact .inl ha
  ·exact .inr ⟨ha,n,j.bsz _ _ l,p⟩
 |vslice a rv l hlen ha him hv hc ht hf ih=>
  refine .vslice a rv l hlen ?_ (fun i hi=>j.im _ _ _ (him i hi)) ih hc ?_ hf
  ·rcases ha with ha| ⟨ha,n,l,p⟩
   ·exact .inl ha
   ·exact .inr ⟨ha,n,j.bsz _ _ l,p⟩
  ·intro i hi;obtain⟨u,h0,h2,D⟩:=ht i hi;have:=j.tip i u;refine⟨AI u j.nid,h0,BK h2 this,fun T=>?_⟩;have g:=D IM;rcases g with g|g
   ·exact .inl g
   ·exact .inr ((j.cur i u IM).symm.trans g)
 |nilmap=>exact .nilmap
 |map hl=>exact .map (j.loc _ _ hl)
 |func L O G K V X z A=>exact .func L O G K z A
 |nilfunc=>exact .nilfunc
 |iface h ih=>exact .iface ih
 |nilIface=>exact .nilIface
 |agg rc l hv hc ih=>exact .agg rc l ih hc
 |tuple rc l hv ih=>exact .tuple rc l ih
theorem VR.isCell{M:Meta}{x:IV}{r:Value}(h:VR M x r):isCell x=r.oneCell':=by
 cases h<;>rfl
def cX(M:Meta)(xs:Y14)(rs:List Value):Prop:=xs.length=rs.length/\∀(i:Nat)(h:i<xs.length)(h':i<rs.length),VR M xs[i] rs[i]
def eB(M:Meta)(xs:Y14)(rs:List Value):Prop:=cX M xs rs/\∀(i:Nat)(h:i<xs.length),isCell xs[i]=true
theorem cX.mono{M M':Meta}(g:Ext M M'){xs:Y14}{rs:List Value}(h:cX M xs rs):cX M' xs rs:=⟨h.1,fun i a b=>(h.2 i a b).mono g⟩
theorem eB.mono{M M':Meta}(g:Ext M M'){xs:Y14}{rs:List Value}(h:eB M xs rs):eB M' xs rs:=⟨h.1.mono g,h.2⟩
theorem cX.nil(M:Meta):cX M [] []:=⟨rfl,fun i h=>absurd h IP⟩
theorem eB.nil(M:Meta):eB M [] []:=⟨cX.nil M,fun i h=>absurd h IP⟩
theorem cX.cons{M:Meta}{x:IV}{r:Value}{xs:Y14}{rs:List Value}(h:VR M x r)(hs:cX M xs rs):cX M (x::xs) (r::rs):=by
 refine⟨by simp [hs.1],fun i a b=>?_⟩
 cases i with
 |zero=>exact h
 |succ i=>exact hs.2 i (by simpa using a) (by simpa using b)
theorem eB.cons{M:Meta}{x:IV}{r:Value}{xs:Y14}{rs:List Value}(h:VR M x r)(g:Pv.isCell x=true)(hs:eB M xs rs):eB M (x::xs) (r::rs):=by
 refine⟨hs.1.cons h,fun i a=>?_⟩
 cases i with
 |zero=>exact g
 |succ i=>exact hs.2 i (by simpa using a)
theorem cX.uncons{M:Meta}{x:IV}{xs:Y14}{rs:List Value}(h:cX M (x::xs) rs): ∃r rs',rs=r::rs'/\VR M x r/\cX M xs rs':=by
 obtain⟨g,j⟩:=h
 cases rs with
 |nil=>simp at g
 |cons r rs'=>
  refine⟨r,rs',rfl,j 0 IP IP,by simpa using g,fun i a b=>?_⟩;exact j (i+1) (by simpa using a) (by simpa using b)
theorem cX.get{M:Meta}{xs:Y14}{rs:List Value}(h:cX M xs rs){i:Nat}{x:IV}(j:xs[i]?=some x): ∃r,rs[i]?=some r/\VR M x r:=by
 obtain⟨hi,rfl⟩:=BB.1 j;have g:i<rs.length:=h.1▸hi;exact⟨rs[i],AA g,h.2 i hi g⟩
theorem eB.get{M:Meta}{xs:Y14}{rs:List Value}(h:eB M xs rs){i:Nat}{x:IV}(g:xs[i]?=some x): ∃r,rs[i]?=some r/\VR M x r:=h.1.get g
theorem cX.append{M:Meta}{xs i:Y14}{rs g:List Value}(h:cX M xs rs)(k:cX M i g):cX M (xs++i) (rs++g):=by
 induction xs generalizing rs with
 |nil=>cases rs with
  |nil=>simpa using k
  |cons r rs=>simp [cX]at h
 |cons x xs ih=>
  obtain⟨r,l,rfl,j,h2⟩:=h.uncons;exact(ih h2).cons j
theorem eB.append{M:Meta}{xs j:Y14}{rs g:List Value}(h:eB M xs rs)(k:eB M j g):eB M (xs++j) (rs++g):=by
 refine⟨h.1.append k.1,fun i a=>?_⟩;rw [IH];split
 ·exact h.2 _ _
 ·exact k.2 _ _
theorem cX.drop{M:Meta}{xs:Y14}{rs:List Value}(h:cX M xs rs)(n:Nat):cX M (xs.drop n) (rs.drop n):=by
 refine⟨by simp [h.1],fun i a b=>?_⟩;simp only [CD]at a b;simp only [FT];exact h.2 _ _ _
theorem cX.take{M:Meta}{xs:Y14}{rs:List Value}(h:cX M xs rs)(n:Nat):cX M (xs.take n) (rs.take n):=by
 refine⟨by simp [h.1],fun i a b=>?_⟩;simp only [AW]at a b;simp only [FU];exact h.2 _ _ _
theorem eB.drop{M:Meta}{xs:Y14}{rs:List Value}(h:eB M xs rs)(n:Nat):eB M (xs.drop n) (rs.drop n):=
 ⟨h.1.drop n,fun i a=>by simp only [CD]at a;simp only [FT];exact h.2 _ _⟩
theorem eB.take{M:Meta}{xs:Y14}{rs:List Value}(h:eB M xs rs)(n:Nat):eB M (xs.take n) (rs.take n):=
 ⟨h.1.take n,fun i a=>by simp only [AW]at a;simp only [FU];exact h.2 _ _⟩
theorem eB.len{M:Meta}{xs:Y14}{rs:List Value}(h:eB M xs rs):xs.length=rs.length:=h.1.1
theorem eB.one{M:Meta}{xs:Y14}{rs:List Value}(h:eB M xs rs): ∀v∈rs,v.oneCell'=true:=by
 intro v j;obtain⟨i,hi,rfl⟩:=GJ j;have g:i<xs.length:=h.len▸hi;rw [<- (h.1.2 i g hi).isCell];exact h.2 i g
theorem wD{M:Meta}{cs:Y14}{r:Value}(h:VR M (.agg cs) r): ∃rc:List Value,r= .agg rc.toArray/\eB M cs rc:=by
 cases h with
 |agg rc hn hv hc=>exact⟨rc.toList,IP,⟨by simpa using hn,fun i a b=>by simpa using hv i a (by simpa using b)⟩,hc⟩
theorem gK{M:Meta}{cs:Y14}{rc:List Value}(h:eB M cs rc):VR M (.agg cs) (.agg rc.toArray):=
 .agg rc.toArray (by simpa using h.len) (fun i a b=>by simpa using h.1.2 i a (by simpa using b)) h.2
theorem Cd{M:Meta}{cs:Y14}{r:Value}(h:VR M (.tuple cs) r): ∃rc:List Value,r= .tuple rc.toArray/\cX M cs rc:=by
 cases h with
 |tuple rc hn hv=>exact⟨rc.toList,IP,by simpa using hn,fun i a b=>by simpa using hv i a (by simpa using b)⟩
theorem dV{M:Meta}{cs:Y14}{rc:List Value}(h:cX M cs rc):VR M (.tuple cs) (.tuple rc.toArray):=
 .tuple rc.toArray (by simpa using h.1) (fun i a b=>by simpa using h.2 i a (by simpa using b))
theorem b3C{M:Meta}{fn:Fn}{xs l:Y14}{r:Value}(h:VR M (.func fn xs l) r): ∃g j:List Value,r= .func fn g.toArray j.toArray/\cX M xs g/\cX M l j:=by
 cases h with
 |func g j p u z A=>exact⟨g.toList,j.toList,IP,⟨by simpa using p,fun i a b=>by simpa using z i a (by simpa using b)⟩,⟨by simpa using u,fun i a b=>by simpa using A i a (by simpa using b)⟩⟩
theorem zZ{M:Meta}{fn:Fn}{xs l:Y14}(g:cX M xs V)(j:cX M l W):VR M (.func fn xs l) (.func fn V.toArray W.toArray):=
 .func V.toArray W.toArray (by simpa using g.1) (by simpa using j.1) (fun i a b=>by simpa using g.2 i a (by simpa using b)) (fun i a b=>by simpa using j.2 i a (by simpa using b))
theorem Yv{M:Meta}(s:Y11):VR M (.str s) (.string ⟨s.toArray⟩):=VR.str ⟨s.toArray⟩
theorem iQ{M:Meta}{x:IV}{r:Value}(h:VR M x r)(g:oE x=true):eB M (cellsOf x) r.cells.toList:=by
 cases h with
 | @agg cs rc hn hv hc=>exact(show eB M cs rc.toList from⟨⟨by simpa using hn,fun i a b=>by simpa using hv i a (by simpa using b)⟩,hc⟩)
 |tuple=>simp [oE]at g
 |_=>exact eB.cons (by first|exact .bool _|exact .int _ _|exact .str _|exact .nilptr|exact .ptr ‹_› |exact .nilslice|exact .vnil|exact .nilmap|exact .map ‹_› |exact .nilfunc|exact .nilIface|exact .iface ‹_› | (constructor<;>assumption)) rfl (eB.nil M)
theorem wE{M:Meta}{v:Value}{x:IV}(h:R4 v=some x):VR M x v/\isCell x=true:=by
 unfold R4 at h;split at h<;>simp at h<;>subst h
 ·exact⟨.bool _,rfl⟩
 ·exact⟨.int _ _,rfl⟩
 ·exact⟨.str _,rfl⟩
 ·exact⟨.nilptr,rfl⟩
 ·exact⟨.nilslice,rfl⟩
 ·exact⟨.nilmap,rfl⟩
 ·exact⟨.nilfunc,rfl⟩
 ·exact⟨.nilIface,rfl⟩
theorem xY{M:Meta} : ∀{l:List Value}{xs:Y14},pY l=some xs->eB M xs l
 | [],xs,h=>by simp [pY]at h;subst h;exact eB.nil M
 |v::r,xs,h=>by
  unfold pY at h;split at h
  ·rename_i x i g h2;simp at h;subst h;exact eB.cons (wE (M:=M) g).1 (wE (M:=M) g).2 (xY h2)
  ·simp at h
theorem sU{M:Meta}{v:Value}{x:IV}(h:ofValue v=some x):VR M x v/\oE x=true:=by
 unfold ofValue at h;split at h
 ·rename_i cs;obtain⟨xs,g,h2⟩:=AD.1 h;subst h2;exact⟨by simpa using gK (xY (M:=M) g),rfl⟩
 ·have:=wE (M:=M) h;refine⟨this.1,?_⟩;have h2:=this.2
  cases x<;>first|rfl|simp [isCell]at h2
theorem Pw{M:Meta}{g:CK}{v:IV}{r:Value}(h:VR M v r):VR M (zT g v) r:=by
 unfold zT
 split
 ·cases h;exact .vnil
 ·cases h with
  |vslice a rv hn hlen ha him hv hc ht hf=>exact .vslice a rv hn hlen ha him hv hc IP (fun _=> .inl rfl)
  |vnil=>exact .vnil
 ·exact h
theorem Vn(g:CK)(v:IV):isCell (zT g v)=isCell v:=by
 unfold zT
 split<;>rfl
theorem Px{M:Meta} : ∀{l:List CK}{vs:Y14}{rs:List Value},cX M vs rs->cX M (mK l vs) rs
 | [],vs,rs,h=>by simpa [mK]using h
 |ck::r,[],rs,h=>by simpa [mK]using h
 |ck::r,v::vs,rs,h=>by
  obtain⟨q,i,rfl,g,h2⟩:=h.uncons;exact cX.cons (Pw g) (Px h2)
theorem Ce: ∀(l:List CK)(vs:Y14),(mK l vs).length=vs.length
 | [],vs=>rfl
 |ck::r,[]=>rfl
 |ck::r,v::vs=>by simp [mK,Ce r vs]
theorem K9: ∀(l:List CK)(vs:Y14),(∀(i:Nat)(h:i<vs.length),isCell vs[i]=true)-> ∀(i:Nat)(h:i< (mK l vs).length),isCell (mK l vs)[i]=true
 | [],vs,h,i,hi=>h i hi
 |ck::r,[],h,i,hi=>by simp [mK]at hi
 |ck::r,v::vs,h,i,hi=>by
  cases i with
  |zero=>simp only [mK,FX,Vn];exact h 0 IP
  |succ i=>simp only [mK,FY];exact K9 r vs (fun j g=>by have:=h (j+1) (by simpa using g);simpa using this) i (by simpa [mK]using hi)
theorem Cf{M:Meta}{l:List CK}{vs:Y14}{rs:List Value}(h:eB M vs rs):eB M (mK l vs) rs:=⟨Px h.1,K9 l vs h.2⟩
theorem b3D{M:Meta}{P:Program}{t:TypeId}{v:IV}{r:Value}(h:VR M v r):VR M (R6 P t v) r:=by
 unfold R6
 split
 ·obtain⟨rc,rfl,g⟩:=wD h;exact gK (Cf g)
 ·exact Pw h
theorem tZ{M:Meta}{P:Program} : ∀{ts:List TypeId}{vs:Y14}{rs:List Value},cX M vs rs->cX M (gS P ts vs) rs
 | [],vs,rs,h=>by simpa [gS]using h
 |t::ts,[],rs,h=>by simpa [gS]using h
 |t::ts,v::vs,rs,h=>by
  obtain⟨q,i,rfl,g,h2⟩:=h.uncons;exact cX.cons (b3D g) (tZ h2)
def Meta.pure(M:Meta):Meta:= {M with nid:=0,loc:=fun _=>none }
theorem iC: ∀{cs:Y14},aM cs=true-> ∀(i:Nat)(h:i<cs.length),bI cs[i]=true
 | [],_,i,hi=>by simp at hi
 |v::r,h,i,hi=>by
  simp only [aM,AF]at h
  cases i with
  |zero=>exact h.1
  |succ i=>exact iC h.2 i (by simpa using hi)
theorem b3E{M M':Meta}(j: ∀b o v,M.im b o=some v->M'.im b o=some v)(l: ∀b n,M.bsz b=some n->M'.bsz b=some n){x:IV}{r:Value}(h:VR M x r):bI x=true->VR M' x r:=by
 induction h with
 |bool b=>intro _;exact .bool b
 |int k n=>intro _;exact .int k n
 |str s=>intro _;exact .str s
 |nilptr=>intro _;exact .nilptr
 |ptr hl=>intro g;simp [bI]at g
 |vref rv hi hv hc ih=>intro g;simp only [bI]at g;exact .vref rv (fun i h=>j _ _ _ (hi i h)) (fun i h=>ih i h (iC g i h)) hc
 |nilslice=>intro _;exact .nilslice
 |vnil=>intro _;exact .vnil
 |hslice a hl ha hlen=>intro g;simp [bI]at g
 | @vslice id e len sz cap cs a rv hn hlen ha hi hv hc ht hf ih=>
  intro g
  cases id with
  |some id=>simp [bI]at g
  |none=>
   simp only [bI]at g;exact .vslice a rv hn hlen (ha.imp id fun⟨z,n,h2,A⟩=>⟨z,n,l _ _ h2,A⟩) (fun i h=>j _ _ _ (hi i h)) (fun i h=>ih i h (iC g i h)) hc IP hf
 |nilmap=>intro _;exact .nilmap
 |map hl=>intro g;simp [bI]at g
 |func K L D G O T p u=>
  intro g;simp only [bI,AF]at g;exact .func K L D G (fun i a b=>p i a b (iC g.1 i a)) (fun i a b=>u i a b (iC g.2 i a))
 |nilfunc=>intro _;exact .nilfunc
 |iface h ih=>intro g;simp only [bI]at g;exact .iface (ih g)
 |nilIface=>intro _;exact .nilIface
 |agg rc hn hv hc ih=>intro g;simp only [bI]at g;exact .agg rc hn (fun i a b=>ih i a b (iC g i a)) hc
 |tuple rc hn hv ih=>intro g;simp only [bI]at g;exact .tuple rc hn (fun i a b=>ih i a b (iC g i a))
theorem Cg{M M':Meta}(j: ∀b o v,M.im b o=some v->M'.im b o=some v)(g: ∀b n,M.bsz b=some n->M'.bsz b=some n){xs:Y14}{rs:List Value}(h:cX M xs rs)(l:aM xs=true):cX M' xs rs:=
 ⟨h.1,fun i a b=>b3E j g (h.2 i a b) (iC l i a)⟩
section
variable {P:Program} {M:Meta}
def At(w:World)(b base:Nat)(rc:List Value):Prop:= ∀(i:Nat)(h:i<rc.length),w.cell? ⟨b,base+i,none⟩=some rc[i]
theorem dH(b g n:Nat):(⟨b,g,none⟩:Addr).add n=⟨b,g+n,none⟩:=by
 unfold Addr.add;split<;>simp_all
theorem kN{t:TypeId}{g:Bool}{n:Nat}(h:fV P t=some (g,n)):
  ∃d i,P.underlying t=some d/\P.info? t=some i/\zS d=g/\i.size=n:=by
 unfold fV at h;split at h
 ·rename_i d i j h2;simp at h;exact⟨d,i,j,h2,h.1,h.2⟩
 ·simp at h
theorem mX{t:TypeId}{d:TypeDesc}(h:P.underlying t=some d)(w:World):(isAgg t).run P w= .ok (zS d) w:=by
 simp only [isAgg,AU,run_underlying h,AL]
 cases d<;>rfl
theorem cM{t:TypeId}{i:TypeInfo}(h:P.info? t=some i)(w:World):(sizeOf t).run P w= .ok i.size w:=by
 simp [sizeOf,typeInfo,h]
theorem lA{α:Type}(l:List α)(a n j:Nat)(x:α)(h:((l.drop a).take n)[j]?=some x):j<n/\l[a+j]?=some x:=by
 rw [DP]at h;split at h
 ·rename_i g;exact⟨g,by simpa [DQ]using h⟩
 ·simp at h
theorem uA{t:TypeId}{cs:Y14}{rc:List Value}{w:World}{b base g:Nat}{v:IV}(u:eB M cs rc)(G:At w b base rc)
  (h:eU P t cs g=some v): ∃r,(loadVar t ⟨b,base+g,none⟩).run P w= .ok r w/\VR M v r:=by
 unfold eU at h;split at h
 ·rename_i n hs;obtain⟨d,i,l,h2,p,D⟩:=kN hs;split at h
  ·rename_i L;simp at h;subst h;refine⟨.agg ((rc.drop g).take n).toArray,?_,gK ((u.drop g).take n)⟩;have K:((rc.drop g).take n).length=n:=by simp;have:=u.len;omega
   have:=run_loadCells_list (P:=P) w ⟨b,base+g,none⟩ ((rc.drop g).take n) (by
    intro j x V;obtain⟨X,A⟩:=lA _ _ _ _ _ V;obtain⟨z,rfl⟩:=BB.1 A;rw [dH,FD];exact G _ z)
   rw [K]at this;simp only [loadVar,AU,mX l,AL,p,if_true,cM h2,D,this,AZ]
  ·simp at h
 ·rename_i n hs;obtain⟨d,i,l,h2,p,D⟩:=kN hs;obtain⟨r,O,T⟩:=u.get h;obtain⟨z,rfl⟩:=BB.1 O;refine⟨_,?_,T⟩;have:=G g z;simp [loadVar,mX l,p,run_load,this]
 ·simp at h
theorem Py{t:TypeId}{cs:Y14}{rc:List Value}{w:World}{v:IV}(u:eB M cs rc)
  (h:eU P t cs j=some v): ∃r,(part t rc.toArray j).run P w= .ok r w/\VR M v r:=by
 unfold eU at h;split at h
 ·rename_i n hs;obtain⟨d,i,g,h2,l,p⟩:=kN hs;split at h
  ·rename_i z;simp at h;subst h;refine⟨.agg ((rc.drop j).take n).toArray,?_,gK ((u.drop j).take n)⟩;simp only [part,AU,mX g,AL,l,if_true,cM h2,p,AZ]
   congr 2
   apply EL;simp [FI]
  ·simp at h
 ·rename_i n hs;obtain⟨d,i,g,h2,l,p⟩:=kN hs;obtain⟨r,A,D⟩:=u.get h;refine⟨r,?_,D⟩;simp [part,mX g,l,A]
 ·simp at h
theorem sJ{α:Type}(l:List α)(i:Nat)(v:α)(h:i<l.length):(l.set i v).take (i+1)=l.take i++ [v]:=by
 induction l generalizing i with
 |nil=>simp at h
 |cons x l ih=>cases i with
  |zero=>simp
  |succ i=>simp only [List.set_cons_succ,GK,CQ];rw [ih i (by simpa using h)]
def mM(rc:List Value)(g:Nat)(c:List Value):List Value:=rc.take g++c++rc.drop (g+c.length)
theorem lZ(rc:List Value)(g:Nat)(c:List Value)(h:g+c.length<=rc.length):(mM rc g c).length=rc.length:=by
 simp [mM];omega
theorem eB.spl{cs:Y14}{rc:List Value}(h:eB M cs rc){c:Y14}{r:List Value}(i:eB M c r)(g:Nat):eB M (Pv.spl cs g c) (mM rc g r):=by
 unfold Pv.spl mM
 rw [i.len];exact((h.take g).append i).append (h.drop _)
theorem gU(b:Nat): ∀(vs:List Value)(o:Nat)(w:World)(rc:Array Value)(i:TypeId)(fz:Nat×Nat),w.heap[b]?=some (.cells rc i fz)->o+vs.length<=rc.size->
  ∃g,(w.setCells b o vs).heap[b]?=some (.cells g i fz)/\g.toList=mM rc.toList o vs
 | [],o,w,rc,i,fz,h,_=>⟨rc,h,by simp [mM]⟩
 |v::r,o,w,rc,i,fz,h,hl=>by
  simp only [AK]at hl;have p:(w.setCell ⟨b,o,none⟩ v).heap[b]?=some (.cells (rc.setIfInBounds o v) i fz):=by
   simp [World.setCell,DS,h]
  obtain⟨g,h2,u⟩:=gU b r (o+1) _ _ _ _ p (by simp;omega);refine⟨g,h2,?_⟩;rw [u];simp only [mM,GY,AK];have j:(rc.toList.set o v).take (o+1)=rc.toList.take o++ [v]:=sJ _ _ _ (by simp;omega);have l:(rc.toList.set o v).drop (o+1+r.length)=rc.toList.drop (o+(r.length+1)):=by
   rw [List.drop_set,if_pos IM,show o+1+r.length=o+(r.length+1) by omega]
  rw [j,l];simp
theorem eX(b:Nat): ∀(vs:List Value)(o:Nat)(w:World)(k:Nat),k≠b->(w.setCells b o vs).heap[k]?=w.heap[k]?
 | [],_,_,_,_=>rfl
 |v::r,o,w,k,h=>by
  rw [World.setCells,eX b r (o+1) _ k h];simp only [World.setCell,DS];rw [if_neg (by simpa using fun e=>h e.symm)]
theorem fO(b:Nat): ∀(vs:List Value)(o:Nat)(w:World),(w.setCells b o vs).heap.size=w.heap.size
 | [],_,_=>rfl
 |v::r,o,w=>by rw [World.setCells,fO b r (o+1)];simp
theorem fP(b:Nat): ∀(vs:List Value)(o:Nat)(w:World),(w.setCells b o vs).os=w.os/\(w.setCells b o vs).tape=w.tape/\(w.setCells b o vs).output=w.output
 | [],_,_=>⟨rfl,rfl,rfl⟩
 |v::r,o,w=>by
  rw [World.setCells];exact fP b r (o+1) _
theorem Ch{t:TypeId}{cs cs':Y14}{rc:Array Value}{w:World}{b g:Nat}{v:IV}{rv:Value}{fz:Nat×Nat}(hc:eB M cs (rc.toList.take cs.length))
  (hb:w.heap[b]?=some (.cells rc T fz)) (hf: ∀i,i<rc.size->w.frozen? ⟨b,i,none⟩=false) (hv:VR M v rv)
  (h:K7 P t cs g v=some cs'):
  ∃u,(storeVar t ⟨b,g,none⟩ rv).run P w= .ok () (w.setCells b g rv.cells.toList)/\(w.setCells b g rv.cells.toList).heap[b]?=some (.cells u T fz)/\
   u.size=rc.size/\cs'.length=cs.length/\eB M cs' (u.toList.take cs'.length)/\u.toList.drop cs.length=rc.toList.drop cs.length:=by
 unfold K7 at h;simp only at h;split at h
 case isFalse=>simp at h
 rename_i L;split at h
 case h_2=>simp at h
 rename_i n hs;split at h
 case isFalse=>simp at h
 rename_i D;obtain⟨X,a1⟩:=D;simp at h;have G:=iQ hv L;have a0: ∃i,P.info? t=some i/\i.size=n:=by
  unfold fX at hs
  cases hi:P.info? t with
  |none=>simp [hi]at hs
  |some i=>exact⟨i,rfl,by simpa [hi]using hs⟩
 obtain⟨i,hi,O⟩:=a0;have a2:cs.length<=rc.size:=by have:=hc.len;simp at this;omega
 have p:rv.cells.toList.length=n:=by rw [<-G.len,X]
 obtain⟨u,h1,h2⟩:=gU b rv.cells.toList g w rc T fz hb (by rw [p];omega);have A:cs'=Pv.spl cs g (cellsOf v):=by rw [<-h];simp [Pv.spl,X]
 have z:cs'.length=cs.length:=by rw [A];simp [Pv.spl,X];omega
 have K:u.size=rc.size:=by
  have:=congrArg List.length h2;rw [lZ _ _ _ (by rw [p];simp;omega)]at this;simpa using this
 refine⟨u,?_,h1,K,z,?_,?_⟩
 ·have Z:=run_storeCells_cells (P:=P) b g rv.cells.toList 0 w (by
    intro j V;rw [p]at V;simp only [World.cell?,hb,FL];simp [show g+j<rc.size from IM])
   (by
    intro j V;rw [p]at V;simpa using hf (g+j) IM) G.one
  have Y:rv.cells.size=i.size:=by rw [O,<-p];simp
  simp only [storeVar,AU,cM hi,AL];rw [if_neg (by simpa using Y)];simpa using Z
 ·rw [z,A,h2];have e:(mM rc.toList g rv.cells.toList).take cs.length=mM (rc.toList.take cs.length) g rv.cells.toList:=by
   simp only [mM,p];rw [FA,FA];simp only [AW,AH,p,HW];rw [show min g rc.toList.length=g from by simp;omega];rw [show min cs.length g=g from IM,show min g cs.length=g from IM];rw [AP (l:=rv.cells.toList) (by rw [p];omega)]
   congr 1
   rw [List.drop_take]
  rw [e];exact hc.spl G g
 ·rw [h2];simp only [mM,p];rw [HJ,HJ];simp only [AW,AH,p];rw [show min g rc.toList.length=g from by simp;omega];rw [HV (by simp;omega),HV (by rw [p];omega)];rw [List.drop_drop,show g+n+(cs.length- (g+n))=cs.length from IM];rfl
def PR(M:Meta):List (Nat×IV)->List (Nat×Value)->Prop
 | [],[]=>True
 | (i,x)::r,(j,v)::s=>i=j/\VR M x v/\PR M r s
 |_,_=>False
theorem L0(g:Nat): ∀(l:List Value)(k:Nat)(rc:Array Value),g+k+l.length<=rc.size->
  ((l.zipIdx k).foldl (fun cs (c,j)=>cs.setIfInBounds (g+j) c) rc).toList=mM rc.toList (g+k) l
 | [],k,rc,_=>by simp [mM]
 |c::l,k,rc,h=>by
  simp only [AK]at h;simp only [List.zipIdx_cons,GE];rw [L0 g l (k+1) (rc.setIfInBounds (g+k) c) (by simp;omega)];simp only [mM,GY,AK];have i:(rc.toList.set (g+k) c).take (g+(k+1))=rc.toList.take (g+k)++ [c]:=sJ _ _ _ (by simp;omega);have p:(rc.toList.set (g+k) c).drop (g+(k+1)+l.length)=rc.toList.drop (g+k+(l.length+1)):=by
   rw [List.drop_set,if_pos IM,show g+(k+1)+l.length=g+k+(l.length+1) by omega]
  rw [i,p];simp
theorem S0{β:Type}(a:Array Value)(f:β->Value×Nat->β)(z:β):a.zipIdx.foldl f z=(a.toList.zipIdx).foldl f z:=by
 rw [<-Array.foldl_toList,Array.toList_zipIdx]
theorem uB{g:Nat->Option (Nat×Nat)} : ∀{ps:List (Nat×IV)}{rs:List (Nat×Value)}{cells:Y14}{rc:Array Value}{l:Y14},PR M ps rs->eB M cells rc.toList->
  lV g cells ps=some l-> ∃ro:Array Value,Instr.fill g rc rs=some ro/\eB M l ro.toList
 | [],[],cells,rc,l,_,hc,h=>by simp [lV]at h;subst h;exact⟨rc,rfl,hc⟩
 | [],_::_,_,_,_,u,_,_=>u.elim
 |_::_,[],_,_,_,u,_,_=>u.elim
 | (i,x)::r,(j,v)::s,cells,rc,l,u,hc,h=>by
  obtain⟨rfl,L,u⟩:=u;unfold lV at h;unfold Instr.fill
  cases hpl:g i with
  |none=>simp [hpl]at h
  |some q=>
   obtain⟨G,n⟩:=q;simp only [hpl]at h⊢;split at h
   case isFalse=>simp at h
   rename_i p;obtain⟨O,h2,K⟩:=p;have z:=iQ L K;have D:v.cells.size=n:=by have:=z.len;simp at this;omega
   have A:rc.size=cells.length:=by have:=hc.len;simpa using this.symm
   rw [if_neg (by simp [D,A];omega)];refine uB (ps:=r) u ?_ h;rw [S0];have:=L0 G v.cells.toList 0 rc (by simp [D,A];omega);simp only [FL]at this;rw [this];exact hc.spl z G
end
section
variable {P:Program} {M:Meta} (w:World)
theorem Ja{op:BinOp}{k:IntKind}{a b:Int}{v:IV}(t:TypeId)(h:pZ op k a b=some v): ∃r,(binOp op t (.int k a) (.int k b)).run P w= .ok r w/\VR M v r:=by
 cases op<;>simp only [pZ]at h
 case quo=>
  split at h
  ·simp at h
  ·rename_i g;simp at h;subst h;exact⟨_,by simp [binOp,Op.intDiv,g],.int _ _⟩
 case rem=>
  split at h
  ·simp at h
  ·rename_i g;simp at h;subst h;exact⟨_,by simp [binOp,Op.intDiv,g],.int _ _⟩
 all_goals (first| (simp at h;done)| (simp only [AC]at h;subst h))
 ·exact⟨_,by rw [binOp_add];rfl,.int _ _⟩
 ·exact⟨_,by rw [binOp_sub];rfl,.int _ _⟩
 ·exact⟨_,by rw [binOp_mul];rfl,.int _ _⟩
 ·exact⟨_,by rw [binOp_and];rfl,.int _ _⟩
 ·exact⟨_,by rw [binOp_or];rfl,.int _ _⟩
 ·exact⟨_,by rw [binOp_xor];rfl,.int _ _⟩
 ·exact⟨_,by rw [binOp_andNot];rfl,.int _ _⟩
 ·exact⟨_,by rw [binOp_eql];rfl,.bool _⟩
 ·exact⟨_,by rw [binOp_neq];rfl,.bool _⟩
 ·exact⟨_,by rw [binOp_lss];rfl,.bool _⟩
 ·exact⟨_,by rw [binOp_leq];rfl,.bool _⟩
 ·exact⟨_,by rw [binOp_gtr];rfl,.bool _⟩
 ·exact⟨_,by rw [binOp_geq];rfl,.bool _⟩
theorem uC{op:BinOp}{k yk:IntKind}{a b:Int}{v:IV}(t:TypeId)(i:op= .shl\/op= .shr)(h:mU op k a b=some v):
  ∃r,(binOp op t (.int k a) (.int yk b)).run P w= .ok r w/\VR M v r:=by
 unfold mU at h;split at h
 ·simp at h
 ·rename_i g;rcases i with rfl|rfl<;>simp only [AC]at h<;>subst h
  ·exact⟨_,by rw [binOp_shl];simp [Op.shift,g],.int _ _⟩
  ·exact⟨_,by rw [binOp_shr];simp [Op.shift,g],.int _ _⟩
theorem Jb{op:BinOp}{a b:ByteArray}{v:IV}(t:TypeId)(h:zU op a.data.toList b.data.toList=some v):
  ∃r,(binOp op t (.string a) (.string b)).run P w= .ok r w/\VR M v r:=by
 have i:=ByteArray.toList_eq a;have j:=ByteArray.toList_eq b
 cases op<;>simp only [zU]at h
 case add=>
  split at h
  ·simp at h
  ·rename_i g;simp only [AC]at h;subst h;have hs: ¬ (((a.size+b.size:Nat):Int)>IntKind.i64.max):=by
    rw [IntKind.max_i64];simp only [EN]at g;exact g
   refine⟨.string (a++b),?_,?_⟩
   ·simp only [binOp,Op.stringOp];rw [if_neg hs];rfl
   ·have:=VR.str (M:=M) (a++b)
    rwa [show(a++b).data.toList=a.data.toList++b.data.toList from IP]at this
 all_goals first
  | (simp at h;done)
  | (simp only [AC]at h;subst h;exact⟨_,by simp [binOp,Op.stringOp,i,j],.bool _⟩)
theorem qC{d:TypeDesc}{x y:IV}{r:Bool}{a b:Value}{t:TypeId}(n:Nat)(g:P.underlying t=some d)(h:dR d x y=some r)(i:VR M x a)(j:VR M y b):
  (Op.equalIn (n+1) t a b).run P w= .ok r w:=by
 unfold dR at h;split at h
 ·simp at h;subst h;cases i;cases j;exact run_equalIn_bool w n t _ _ g
 ·split at h
  ·rename_i l;simp at h;subst h;subst l;cases i;cases j;exact run_equalIn_int w n t _ _ _ _ g
  ·simp at h
 ·simp at h;subst h
  cases i with|str p=>cases j with|str u=>
  rw [run_equalIn_string w n t _ _ g,ByteArray.toList_eq,ByteArray.toList_eq]
 ·simp at h
theorem kO{t:TypeId}{d:TypeDesc}{rc:List Value}{r:Value}(g:P.underlying t=some d)(hd:zS d=false)(h:rc[i]?=some r):
  (part t rc.toArray i).run P w= .ok r w:=by
 simp [part,mX g,hd,h]
theorem jL{d:TypeDesc}{x y:IV}{r:Bool}(h:dR d x y=some r):zS d=false:=by
 cases d<;>first|rfl|simp [dR]at h
theorem xZ(n:Nat){xs ys:Y14}(hx:eB M xs V)(hy:eB M ys W): ∀{fs:List Field}{r:Bool},kW P fs xs ys=some r->
  (Op.eqFields (n+1) V.toArray W.toArray fs).run P w= .ok r w
 | [],r,h=>by simp [kW]at h;subst h;rfl
 |f::fs,r,h=>by
  unfold kW at h;split at h
  ·simp at h
  rename_i hn
  have hn' : f.name ≠ "_" := by simpa using hn
  split at h
  case h_2=>simp at h
  rename_i d x y h1 h2 h3;obtain⟨a,ha,va⟩:=hx.get h2;obtain⟨b,hb,vb⟩:=hy.get h3;split at h
  ·rename_i hs;have e1:=kO (P:=P) w h1 (jL hs) ha;have e2:=kO (P:=P) w h1 (jL hs) hb;have e3:=qC (P:=P) w n h1 hs va vb;simp only [Op.eqFields,if_pos hn',AU,e1,e2,e3,AL,Bool.not_true,BA,if_false];exact xZ n hx hy h
  ·rename_i hs;simp at h;subst h;have e1:=kO (P:=P) w h1 (jL hs) ha;have e2:=kO (P:=P) w h1 (jL hs) hb;have e3:=qC (P:=P) w n h1 hs va vb;simp only [Op.eqFields,if_pos hn',AU,e1,e2,e3,AL,Bool.not_false,if_true,AZ]
  ·simp at h
theorem Pz{c:Bool}{t:TypeId}{x y:IV}{r:Bool}{a b:Value}(op:BinOp)(p u:Operand)(K:c=(jJ p||jJ u))(h:Vm P c t x y=some r)(j:VR M x a)(l:VR M y b):
  (Op.equal t a b).run P w= .ok r w/\(eqGuard op t p u a b).run P w= .ok () w:=by
 unfold Vm at h
 cases hu:P.underlying t with
 |none=>simp [hu]at h
 |some d=>
  have base:dR d x y=some r->(Op.equal t a b).run P w= .ok r w/\(eqGuard op t p u a b).run P w= .ok () w:=by
   intro hs;refine⟨qC w 9999 hu hs j l,?_⟩;unfold dR at hs;split at hs
   ·cases j;cases l;rw [eqGuard_at_bool];rfl
   ·cases j;cases l;rw [eqGuard_at_int];rfl
   ·cases j;cases l;rw [eqGuard_at_string];rfl
   ·simp at hs
  have g: ∀(k:Nat),(∀n,(Op.equalIn (n+1) t a b).run P w= .ok r w)->(Op.equal t a b).run P w= .ok r w:=fun _ L=>L 9999
  simp only [hu]at h
  cases d<;>simp only at h<;>first|exact base h|skip
  case struct fs=>
   split at h
   case h_2=>simp at h
   rename_i xs V;split at h
   ·simp at h
   rename_i z;simp only [CL,not_or,GA]at z;obtain⟨O,rfl,D⟩:=wD j;obtain⟨T,rfl,G⟩:=wD l;refine⟨?_,run_eqGuard_agg w op t p u _ _ z.2⟩;have hf:P.fieldsOf t=fs:=by simp [Program.fieldsOf,hu]
   have:=run_equalIn_struct (P:=P) w 9999 t O.toArray T.toArray (by rw [hf];exact hu) z.1;rw [hf]at this;show(Op.equalIn (9999+1) t _ _).run P w=_;rw [this];exact xZ w 9998 D G h
  case pointer e=>
   split at h
   all_goals (first| (simp at h;done)|skip)
   all_goals
    simp only [AC]at h;subst h
    cases j
    cases l
    refine⟨g 9999 (by intro n;simp [Op.equalIn,run_underlying hu]),by rw [eqGuard_at_pointer];rfl⟩
  case interface ms=>
   split at h
   case h_1=>
    split at h
    case isFalse=>simp at h
    rename_i i;simp at h;subst h;cases j;cases l;refine⟨g 9999 (by intro n;simp [Op.equalIn,run_underlying hu]),?_⟩;rw [K,CL]at i;have:((match p with| .const _=>true|_=>false)|| (match u with| .const _=>true|_=>false))=true:=by
     rcases i with i|i<;>(unfold jJ at i;split at i<;>simp_all)
    cases p<;>cases u<;>first| (simp [jJ]at i;done)| (cases op<;>rfl)
   all_goals (first| (simp at h;done)|skip)
   all_goals
    simp only [AC]at h;subst h
    cases j
    cases l
    refine⟨g 9999 (by intro n;simp [Op.equalIn,run_underlying hu]),by cases op<;>rfl⟩
  case slice e=>
   split at h
   all_goals (first| (simp at h;done)|skip)
   case h_4=>
    split at h
    case isFalse=>simp at h
    rename_i A;simp only [AC]at h;subst h
    cases j
    cases l
    ·simp at A
    ·refine⟨g 9999 (by intro n;simp [Op.equalIn,run_underlying hu]),by rw [eqGuard_at_slice];rfl⟩
   case h_5=>
    split at h
    case isFalse=>simp at h
    rename_i A;simp only [AC]at h;subst h
    cases l
    cases j
    ·simp at A
    ·refine⟨g 9999 (by intro n;simp [Op.equalIn,run_underlying hu]),by rw [eqGuard_at_slice];rfl⟩
   all_goals
    simp only [AC]at h;subst h
    cases j
    cases l
    refine⟨g 9999 (by intro n;simp [Op.equalIn,run_underlying hu]),by rw [eqGuard_at_slice];rfl⟩
  case map k e=>
   split at h
   all_goals (first| (simp at h;done)|skip)
   all_goals
    simp only [AC]at h;subst h
    cases j
    cases l
    refine⟨g 9999 (by intro n;simp [Op.equalIn,run_underlying hu]),by rw [eqGuard_at_map];rfl⟩
  case func ps rs vr=>
   split at h
   all_goals (first| (simp at h;done)|skip)
   all_goals
    simp only [AC]at h;subst h
    cases j
    cases l
    refine⟨g 9999 (by intro n;simp [Op.equalIn,run_underlying hu]),by first| (rw [eqGuard_at_nilFunc];rfl)| (rw [eqGuard_at_func];rfl)⟩
end
section
variable {P:Program} {M:Meta} (w:World)
theorem Vo{t:TypeId}{x y:IV}{a b:Value}(i:VR M x a)(g:VR M y b)(hi: ∀k p k' q,¬ (x= .int k p/\y= .int k' q))(hs: ∀p q,¬ (x= .str p/\y= .str q)):
  binOp .eql t a b=(do pure (.bool (<-Op.equal t a b)))/\binOp .neq t a b=(do pure (.bool (!(<-Op.equal t a b)))):=by
 cases i
 case int k n=>
  cases g
  case int k' m=>exact absurd ⟨rfl,rfl⟩ (hi k n k' m)
  all_goals exact⟨by simp [binOp],by simp [binOp]⟩
 case str p=>
  cases g
  case str q=>exact absurd ⟨rfl,rfl⟩ (hs _ _)
  all_goals exact⟨by simp [binOp],by simp [binOp]⟩
 all_goals exact⟨by simp [binOp],by simp [binOp]⟩
theorem Yw{op:BinOp}{c:Bool}{t:TypeId}{x y v:IV}{a b:Value}(u z:Operand)(K:c=(jJ u||jJ z))(D:VR M x a)(G:VR M y b)(h:lW P op c t x y=some v):
  ∃r,(do eqGuard op t u z a b;binOp op t a b:Sem Value).run P w= .ok r w/\VR M v r:=by
 unfold lW at h;split at h
 ·rename_i k p l q
  cases D;cases G
  have A:(eqGuard op t u z (.int k p) (.int l q)).run P w= .ok () w:=by rw [eqGuard_at_int];rfl
  split at h
  ·obtain⟨r,g,h2⟩:=uC (P:=P) (M:=M) (yk:=l) w t (.inl rfl) h;exact⟨r,by simp only [AU,A,AL];exact g,h2⟩
  ·obtain⟨r,g,h2⟩:=uC (P:=P) (M:=M) (yk:=l) w t (.inr rfl) h;exact⟨r,by simp only [AU,A,AL];exact g,h2⟩
  ·split at h
   ·rename_i L;subst L;obtain⟨r,g,h2⟩:=Ja (P:=P) (M:=M) w t h;exact⟨r,by simp only [AU,A,AL];exact g,h2⟩
   ·simp at h
 ·cases D with|str p=>cases G with|str q=>
  have A:(eqGuard op t u z (.string p) (.string q)).run P w= .ok () w:=by rw [eqGuard_at_string];rfl
  obtain⟨r,g,h2⟩:=Jb (P:=P) (M:=M) w t h;exact⟨r,by simp only [AU,A,AL];exact g,h2⟩
 ·rename_i O T;have hi: ∀k p l q,¬ (x= .int k p/\y= .int l q):=fun k p l q ⟨i,j⟩=>O k p l q i j
  have hs: ∀p q,¬ (x= .str p/\y= .str q):=fun p q ⟨i,j⟩=>T p q i j
  obtain⟨V,X⟩:=Vo (t:=t) D G hi hs;split at h
  ·obtain⟨r,g,h2⟩:=AD.1 h;subst h2;obtain⟨i,j⟩:=Pz (P:=P) w .eql u z K g D G;exact⟨.bool r,by simp only [AU,j,AL,V,i,AZ],.bool _⟩
  ·obtain⟨r,g,h2⟩:=AD.1 h;subst h2;obtain⟨i,j⟩:=Pz (P:=P) w .neq u z K g D G;exact⟨.bool !r,by simp only [AU,j,AL,X,i,AZ],.bool _⟩
  ·simp at h
theorem b3F{op:UnOp}{x v:IV}{a:Value}(g:VR M x a)(h:c1Z op x=some v): ∃r,(Op.unary op a).run P w= .ok r w/\VR M v r:=by
 unfold c1Z at h;split at h
 ·simp only [AC]at h;subst h;cases g;exact⟨_,by simp only [Op.unary,Op.intArith];rfl,.int _ _⟩
 ·rename_i k n;simp only [pZ,AC]at h;subst h;cases g;exact⟨_,by simp only [Op.unary,Op.intBits];rfl,.int _ _⟩
 ·simp at h;subst h;cases g;exact⟨_,by simp only [Op.unary];rfl,.bool _⟩
 ·simp at h
theorem A0: ∀{cs:Y14}{rc:List Value}{b:Y11},cX M cs rc->fW cs=some b-> ∃g:Y12,rc=g.map (Value.int .u8)/\b=g.map fun n=>UInt8.ofNat n.toNat
 | [],rc,b,hv,h=>by
  cases rc with
  |nil=>simp [fW]at h;subst h;exact⟨[],rfl,rfl⟩
  |cons r rs=>simp [cX]at hv
 |x::cs,rc,b,hv,h=>by
  obtain⟨r,z,rfl,i,h2⟩:=hv.uncons;unfold fW at h;split at h
  case h_1 e=>simp at e
  case h_2 n r' e=>
   simp only [BS]at e;obtain⟨rfl,rfl⟩:=e;obtain⟨A,j,l⟩:=AD.1 h;subst l
   cases i
   obtain⟨g,p,u⟩:=A0 h2 j;exact⟨n::g,by simp [p],by simp [u]⟩
  case h_3=>simp at h
theorem mZ{cs:Y14}{rc:List Value}{b:Y11}{a:Addr}{cap:Nat}(i:cX M cs rc)(h:fW cs=some b)
  (hm:(loadCells a rc.length).run P w= .ok rc.toArray w):(Conv.bytesToString (.slice (some a) rc.length cap)).run P w= .ok (.string ⟨b.toArray⟩) w:=by
 obtain⟨j,g,h2⟩:=A0 i h;rw [run_bytesToString w a rc.length cap j (by rw [hm,g]),foldl_push_bytes,h2];show Result.ok (Value.string ⟨#[]++_⟩) w=_;simp
theorem uD{rc:List Value}{b base:Nat}(h:At w b base rc):(loadCells ⟨b,base,none⟩ rc.length).run P w= .ok rc.toArray w:=
 run_loadCells_list (P:=P) w ⟨b,base,none⟩ rc (fun j v g=>by
  obtain⟨i,rfl⟩:=BB.1 g;rw [dH];exact h _ i)
theorem Vp{s d:TypeId}{x v:IV}{a:Value}(D: ∀b o u,M.im b o=some u->w.cell? ⟨b,o,none⟩=some u)(l:VR M x a)(h:R7 P s d x=some v):
  ∃r,(convert s d a).run P w= .ok r w/\VR M v r:=by
 unfold R7 at h
 cases hs:P.underlying s with
 |none=>simp [hs]at h
 |some ds=>
  cases hd:P.underlying d with
  |none=>simp [hs,hd]at h
  |some dd=>
   simp only [hs,hd]at h;split at h
   ·simp only [AC]at h;subst h;cases l;exact⟨_,by simp [convert,run_underlying hs,run_underlying hd,Conv.intToInt],.int _ _⟩
   ·simp only [AC]at h;subst h;cases l;exact⟨_,by simp [convert,run_underlying hs,run_underlying hd],.str _⟩
   ·split at h
    case h_2=>simp at h
    rename_i e;split at h
    case h_2=>simp at h
    rename_i A;split at h
    ·simp only [AC]at h;subst h;cases l;refine⟨_,by rw [run_convert_bytes_string w s d e _ _ _ hs A hd];rfl,?_⟩;exact VR.str (M:=M) ByteArray.empty
    ·rename_i T e' len cs G;clear G;obtain⟨b,z,h2⟩:=AD.1 h;subst h2
     cases l with
     |vnil=>
      simp only [fW,AC]at z;subst z;refine⟨_,by rw [run_convert_bytes_string w s d e _ _ _ hs A hd];rfl,?_⟩;exact VR.str (M:=M) ByteArray.empty
     | @vslice _ _ _ _ cap _ a rv hn hlen ha him' hv hc ht hf=>
      refine⟨.string ⟨b.toArray⟩,?_,Yv b⟩;rw [run_convert_bytes_string w s d e _ _ _ hs A hd];have g:cap=0\/a.spot=none:=ha.imp id (·.1);have O:cX M cs ((List.range cs.length).map rv):=⟨IP,fun i p q=>by simpa using hv i p⟩;have L:((List.range cs.length).map rv).length=len:=by simp [hn]
      rw [<-L];refine mZ w O z ?_
      by_cases h0:cs.length=0
      ·simp [h0,loadCells,loadCellsFrom]
      ·have j:a.spot=none:=by
        rcases g with g|g
        ·omega
        ·exact g
       obtain⟨V,X,K⟩:=a;simp only at j;subst j;exact uD w (fun i hi=>by simp at hi;simpa using D _ _ _ (him' i hi))
    ·simp at h
   ·simp at h
theorem oI{tv:Option TV}{n:Int}(h:J5 tv=some n): ∃k,tv=some (.v (.int k n)):=by
 unfold J5 at h;split at h
 ·simp at h;subst h;exact⟨_,rfl⟩
 ·simp at h
theorem qD{k:IntKind}{i:Int}{y:Nat}{g:BoundsCode}(h:0<=i/\i<=y):(Instr.sliceBound (.int k i) y g).run P w= .ok i.toNat w:=by
 simp [Instr.sliceBound,asIntOf,h]
def BR(M:Meta):Option (Option TV)->Option Value->Prop
 |none,none=>True
 |some (some (.v x)),some r=>VR M x r
 |some (some (.l _ _)),some _=>True
 |some (some .u),some _=>True
 |some none,some _=>True
 |_,_=>False
theorem Ci{o:Option (Option TV)}{r:Option Value}{d n:Int}(e:(match o with|none=>some d|some x=>J5 x)=some n)(b:BR M o r):
  (r=none/\d=n) \/ ∃k,r=some (.int k n):=by
 cases o with
 |none=>
  cases r with
  |none=>simp at e;exact .inl ⟨rfl,e⟩
  |some r=>exact b.elim
 |some tv=>
  obtain⟨k,rfl⟩:=oI e
  cases r with
  |none=>exact b.elim
  |some r=>cases b;exact .inr ⟨k,rfl⟩
theorem iR{isSlice:Bool}{len cap l h:Nat}{lo hi:Option (Option TV)}{p j:Option Value}(T:len<=cap)(z:BR M lo p)(u:BR M hi j)(i:gI len lo hi=some (l,h)):
  l<=h/\h<=len/\(Instr.sliceBounds isSlice len cap p j none).run P w= .ok (l,h,cap) w:=by
 unfold gI at i;simp only at i;split at i
 case h_2=>simp at i
 rename_i D h' K L;split at i
 case isFalse=>simp at i
 rename_i O;obtain⟨V,X,Y⟩:=O;simp only [AC,BY]at i;obtain⟨rfl,rfl⟩:=i;refine⟨IM,IM,?_⟩;have r1: ∀k g,(Instr.sliceBound (.int k h') cap g).run P w= .ok h'.toNat w:=fun k g=>qD w ⟨IM,IM⟩
 have A: ∀k g,(Instr.sliceBound (.int k D) h'.toNat g).run P w= .ok D.toNat w:=fun k g=>qD w ⟨IM,IM⟩
 rcases Ci K z with⟨rfl,q1⟩| ⟨k1,rfl⟩<;>rcases Ci L u with⟨rfl,G⟩| ⟨Z,rfl⟩
 ·subst q1;subst G;simp [Instr.sliceBounds]
 ·subst q1;simp [Instr.sliceBounds,r1]
 ·subst G;simp only [AE]at A;simp [Instr.sliceBounds,A]
 ·simp [Instr.sliceBounds,r1,A]
end
section
variable {P:Program} {M:Meta} (w:World)
theorem dN{t:TypeId}{n:Nat}(h:fX P t=some n): ∃i,P.info? t=some i/\i.size=n:=by
 unfold fX at h;obtain⟨i,g,h2⟩:=AD.1 h;exact⟨i,g,h2⟩
theorem kP{t:TypeId}{n:Nat}(h:gY P t=some n): ∃i,P.info? t=some i/\i.bytes=n:=by
 unfold gY at h;obtain⟨i,g,h2⟩:=AD.1 h;exact⟨i,g,h2⟩
theorem eI{t:TypeId}{z:IV}(h:dB P t=some z): ∃i r,P.info? t=some i/\i.zero=some r/\VR M z r/\oE z=true:=by
 unfold dB at h;obtain⟨r,g,h2⟩:=CJ.1 h;obtain⟨i,j,l⟩:=CJ.1 g;exact⟨i,r,j,l,(sU (M:=M) h2).1,(sU (M:=M) h2).2⟩
theorem J6{id:Y10}{e len sz l h cap:Nat}{cs:Y14}{a:Option Addr}(hx:VR M (.vslice id e len sz cs) (.slice a len cap))(a0:l<=h)(hh:h<=len):
  VR M (.vslice id (e- (len-h)*sz) (h-l) sz ((cs.drop (l*sz)).take ((h-l)*sz))) (.slice (if cap=l then a else a.map (·.add (l*sz))) (h-l) (cap-l)):=by
 cases hx with
 |vnil=>
  obtain rfl:h=0:=IM;obtain rfl:l=0:=IM;simpa using VR.vnil
 |vslice a rv hn hlen ha him hv hc ht hf=>
  have T:l*sz+(h-l)*sz=h*sz:=by rw [<-Nat.add_mul];congr 1;omega
  have K:h*sz+(len-h)*sz=len*sz:=by rw [<-Nat.add_mul];congr 1;omega
  have g:((cs.drop (l*sz)).take ((h-l)*sz)).length=(h-l)*sz:=by simp;omega
  have p:id=none->e- (len-h)*sz=0\/ (e- (len-h)*sz=1/\cap-l=h-l/\0<sz):=by
   intro D;rcases hf D with rfl| ⟨rfl,rfl,h0⟩
   ·exact .inl IM
   ·by_cases hhl:h=cap
    ·exact .inr ⟨by subst hhl;simp,IM,h0⟩
    ·have:1*1<=(cap-h)*sz:=Nat.mul_le_mul IM h0;exact .inl IM
  by_cases hcap:cap=l
  ·have j:h-l=0:=IM;rw [if_pos hcap];refine .vslice a (fun _=>undef) g IM (.inl IM) ?_ ?_ ?_ ?_ p
   ·intro i hi;rw [g,j]at hi;omega
   ·intro i hi;rw [g,j]at hi;omega
   ·intro i hi;rw [g,j]at hi;omega
   ·intro i hi;obtain⟨z,h0,h2,u⟩:=ht i hi;rw [g,j];exact⟨z,IM,IM,fun _=> .inl IM⟩
  ·rw [if_neg hcap];have O:a.spot=none/\∃n,M.bsz a.block=some n/\a.off+cap*sz<=n:=ha.resolve_left IM
   obtain⟨V,X,Y⟩:=a;obtain⟨hs,n,Z,G⟩:=O;simp only at hs;subst hs;simp only [DN,dH];have L:l*sz+(cap-l)*sz=cap*sz:=by rw [<-Nat.add_mul];congr 1;omega
   refine .vslice ⟨V,X+l*sz,none⟩ (fun i=>rv (l*sz+i)) g IM (.inr ⟨rfl,n,Z,by simp only at G⊢;omega⟩) ?_ ?_ ?_ ?_ p
   ·intro i hi;rw [g]at hi;have:=him (l*sz+i) IM;simpa [FD]using this
   ·intro i hi;rw [g]at hi;simp only [FU,FT];exact hv _ _
   ·intro i hi;simp only [FU,FT];exact hc _ _
   ·intro i hi;obtain⟨z,h0,h2,u⟩:=ht i hi;refine⟨z,by rw [g];omega,IM,fun he=>?_⟩;have A:e=M.tip i:=IM;rcases u A with u|u
    ·have:cap=l:=IM;exact absurd this hcap
    ·refine .inr ?_;rw [u,g];simp only [BY,true_and];omega
theorem sK{id g len sz l h cap:Nat}{a:Addr}(z:VR M (.hslice id g len sz) (.slice (some a) len cap))(u:l<=h)(A:h<=len):
  VR M (.hslice id (g+l*sz) (h-l) sz) (.slice (if cap=l then some a else(some a).map (·.add (l*sz))) (h-l) (cap-l)):=by
 cases z with
 | @hslice _ _ _ _ _ b _ hl ha hlen=>
  by_cases hcap:cap=l
  ·rw [if_pos hcap];exact .hslice a hl (.inl IM) IM
  ·rw [if_neg hcap];obtain⟨rfl,n,j,p⟩:=ha.resolve_left IM;simp only [DN,dH];have i:l*sz+(cap-l)*sz=cap*sz:=by rw [<-Nat.add_mul];congr 1;omega
   exact .hslice _ hl (.inr ⟨rfl,n,j,IM⟩) IM
theorem oJ{id:Y10}{e len sz:Nat}{cs:Y14}{r:Value}(g:VR M (.vslice id e len sz cs) r): ∃a cap,r= .slice a len cap/\len<=cap/\cs.length=len*sz:=by
 cases g with
 |vslice a rv hn hlen=>exact⟨some a,_,rfl,hlen,hn⟩
 |vnil=>exact⟨none,0,rfl,AJ _,IP⟩
theorem oK{id g len sz:Nat}{r:Value}(i:VR M (.hslice id g len sz) r): ∃a cap,r= .slice (some a) len cap/\len<=cap:=by
 cases i with
 |hslice a hl ha hlen=>exact⟨a,_,rfl,hlen⟩
theorem Jc{t:TypeId}{x v:IV}{a:Value}{lo hi:Option (Option TV)}{K G:Option Value}(O:VR M x a)(j:BR M lo K)(g:BR M hi G)(h:oF P t x lo hi=some v):
  ∃r,(Instr.sliceAt t a K G none).run P w= .ok r w/\VR M v r:=by
 unfold oF at h
 cases hu:P.underlying t with
 |none=>simp [hu]at h
 |some d=>
  simp only [hu]at h
  cases d<;>simp only at h<;>first| (simp at h;done)|skip
  case string=>
   split at h
   case h_2=>simp at h
   obtain⟨⟨l,k⟩,u,h2⟩:=AD.1 h;subst h2
   cases O with|str s=>
   obtain⟨T,L,p⟩:=iR (P:=P) (isSlice:=false) w (AJ _) j g u;simp only [EN]at L p;refine⟨.string (s.extract l k),?_,?_⟩
   ·simp only [Instr.sliceAt,AU,run_underlying hu,AL,Instr.slice];have X:(Instr.sliceBounds false s.size s.size K G none).run P w= .ok (l,k,s.size) w:=p;simp [X]
   ·have:=VR.str (M:=M) (s.extract l k)
    rwa [show(s.extract l k).data.toList=(s.data.toList.drop l).take (k-l)from by simp [ByteArray.data_extract,FI]]at this
  case slice e=>
   cases hz:fX P e with
   |none=>simp [hz]at h
   |some sz=>
    obtain⟨i,z,V⟩:=dN hz;simp only [hz]at h;split at h
    ·obtain⟨⟨l,k⟩,u,h2⟩:=AD.1 h;subst h2
     cases O
     obtain⟨T,L,p⟩:=iR (P:=P) (isSlice:=true) w (AJ _) j g u;have hl:l=0:=IM;have Z:k=0:=IM;subst hl;subst Z;exact⟨.slice none 0 0,by simp [Instr.sliceAt,Instr.slice,run_underlying hu,p,cM z],.nilslice⟩
    ·split at h
     case isFalse=>simp at h
     rename_i D;subst D;obtain⟨⟨l,k⟩,u,h2⟩:=AD.1 h;subst h2;obtain⟨Y,cap,rfl,A⟩:=oK O;obtain⟨T,L,p⟩:=iR (P:=P) (isSlice:=true) w A j g u;exact⟨_,by simp only [Instr.sliceAt,Instr.slice,AU,run_underlying hu,AL,p,cM z,V,AZ],sK O T L⟩
    ·split at h
     case isFalse=>simp at h
     rename_i D;subst D;obtain⟨⟨l,k⟩,u,h2⟩:=AD.1 h;subst h2;obtain⟨Y,cap,rfl,A,hn⟩:=oJ O;obtain⟨T,L,p⟩:=iR (P:=P) (isSlice:=true) w A j g u;exact⟨_,by simp only [Instr.sliceAt,Instr.slice,AU,run_underlying hu,AL,p,cM z,V,AZ],J6 O T L⟩
    ·simp at h
def TR(M:Meta)(pb:Nat->Nat):TV->Value->Prop
 | .v x,r=>VR M x r
 | .l s off,r=>r= .pointer (some ⟨pb s,off,none⟩)
 | .u,r=>r=undef
theorem yD{pb:Nat->Nat}{n:Nat}{x y:TV}{r:Value}(h:kX n x=some y)(i:TR M pb x r): ∃a,r= .pointer (some a)/\TR M pb y (.pointer (some (a.add n))):=by
 unfold kX at h;split at h
 ·simp at h;subst h;exact⟨_,i,by simp [TR,dH]⟩
 ·simp at h;subst h
  cases i with|ptr l=>exact⟨_,rfl,by simpa [TR,dH]using VR.ptr l⟩
 ·simp at h;subst h
  cases i with|vref rv g p j=>exact⟨_,rfl,by simpa [TR,dH,FD]using VR.vref rv g p j⟩
 ·simp at h
end
section
variable {P:Program} {M:Meta} (w:World)
theorem A1{tv:Option TV}{x:IV}(h:bJ tv=some x):tv=some (.v x):=by
 unfold bJ at h;split at h
 ·simp at h;subst h;rfl
 ·simp at h
section
variable {pb:Nat->Nat} {ev:Operand->Option TV} {ρ:Operand->Value} (hev: ∀x tv,ev x=some tv->TR M pb tv (ρ x))
include hev
theorem bH{x:Operand}{v:IV}(h:bJ (ev x)=some v):VR M v (ρ x):=hev _ _ (A1 h)
theorem kV: ∀{l:List Operand}{xs:Y14},mL (l.map ev)=some xs->cX M xs (l.map ρ)
 | [],xs,h=>by simp [mL]at h;subst h;exact cX.nil M
 |x::l,xs,h=>by
  simp only [CF]at h⊢;unfold mL at h;split at h
  ·rename_i v vs g h2;simp at h;subst h;exact cX.cons (bH hev g) (kV h2)
  ·simp at h
theorem uE: ∀{l:List (Nat×Operand)}{ps:List (Nat×IV)},hJ (l.map fun(i,x)=>(i,ev x))=some ps->PR M ps (l.map fun(i,x)=>(i,ρ x))
 | [],ps,h=>by simp [hJ]at h;subst h;trivial
 | (i,x)::l,ps,h=>by
  simp only [CF]at h⊢;unfold hJ at h;split at h
  ·rename_i v vs g h2;simp at h;subst h;exact⟨rfl,bH hev g,uE h2⟩
  ·simp at h
theorem uF(o:Option Operand):BR M (o.map ev) (o.map ρ):=by
 cases o with
 |none=>trivial
 |some x=>
  cases h:ev x with
  |none=>simp [BR,h]
  |some tv=>
   have:=hev _ _ h
   cases tv with
   |v y=>simpa [BR,h,TR]using this
   |l s off=>simp [BR,h]
   |u=>simp [BR,h]
end
theorem Jd(g:List Field)(h:g.all (fun x=>(P.info? x.type).isSome)=true):
  (g.mapM (m:=Sem) fun f=>do pure (f.offset,<-sizeOf f.type)).run P w= .ok (g.map fun x=>(x.offset,P.cellsOf x.type)) w:=by
 induction g with
 |nil=>simp
 |cons f g ih=>
  simp only [EP,AF]at h;obtain⟨i,hi⟩:=FM.1 h.1;have j:=ih h.2;simp only [HX,AU,cM hi,AL,AZ,j];simp [Program.cellsOf,hi]
theorem cQ{t:TypeId}{i:TypeInfo}{r:Value}(h:P.info? t=some i)(g:i.zero=some r):(zeroValue t).run P w= .ok r w:=by
 simp [zeroValue,typeInfo,h,g]
theorem Cj{t:TypeId}{z:IV}{ps:List (Nat×IV)}{g:Array (Nat×Value)}(hz:dB P t=some z)(V:PR M ps g.toList){cs:Y14}
  (h:(∃l,P.underlying t=some (.struct l)/\l.toList.all (fun x=>(P.info? x.type).isSome)=true/\lV (zI P l) (cellsOf z) ps=some cs) \/
   (∃n e sz,P.underlying t=some (.array n e)/\fX P e=some sz/\lV (fun i=>some (i*sz,sz)) (cellsOf z) ps=some cs)):
  ∃r,(Instr.build t g).run P w= .ok r w/\VR M (.agg cs) r:=by
 obtain⟨i,r,O,h2,X,Y⟩:=eI (M:=M) hz;have T:=iQ X Y;rcases h with⟨l,L,ha,hf⟩| ⟨n,e,sz,L,hs,hf⟩
 ·obtain⟨p,u,A⟩:=uB V T hf;have Z:(l.mapM (m:=Sem) fun f=>do pure (f.offset,<-sizeOf f.type)).run P w= .ok (l.map fun x=>(x.offset,P.cellsOf x.type)) w:=by
   rw [HD];simp only [Sem.run_map,Jd w l.toList ha,AL]
   congr 1
   apply EL;simp
  refine⟨.agg p,?_,by simpa using gK A⟩;have K:(fun i=>(l.map fun x=>(x.offset,P.cellsOf x.type))[i]?)=zI P l:=by
   funext j;simp [zI]
  simp only [Instr.build,AU,cQ w O h2,AL,run_underlying L,Z];have:Instr.fill (fun x=>(l.map fun x=>(x.offset,P.cellsOf x.type))[x]?) r.cells g.toList=some p:=by rw [K];exact u
  rw [this];rfl
 ·obtain⟨p,u,A⟩:=uB V T hf;obtain⟨j,D,G⟩:=dN hs;refine⟨.agg p,?_,by simpa using gK A⟩;simp only [Instr.build,AU,cQ w O h2,AL,run_underlying L,cM D,G,u,AZ]
theorem uG{t:TypeId}{f:Nat}(h:zH P t f=some (T,i)): ∃g x,P.underlying t=some (.struct g)/\g[f]?=some x/\x.type=T/\x.offset=i:=by
 unfold zH at h;split at h
 ·rename_i g l;obtain⟨x,j,h2⟩:=AD.1 h;simp at h2;exact⟨g,x,l,j,h2.1,h2.2⟩
 ·simp at h
theorem Ck: ∀{xs:Y14}{rs:List Value}{x v:IV}{r:Value},VR M x r->cX M xs rs->tV min2 x xs=some v-> ∃s,(rs.foldlM Builtin.min2 r).run P w= .ok s w/\VR M v s
 | [],rs,x,v,r,hx,hs,h=>by
  cases rs with
  |nil=>simp [tV]at h;subst h;exact⟨r,IP,hx⟩
  |cons _ _=>simp [cX]at hs
 |y::ys,rs,x,v,r,hx,hs,h=>by
  obtain⟨q,p,rfl,i,h2⟩:=hs.uncons;unfold tV at h;split at h
  ·rename_i z g;unfold min2 at g;split at g
   ·simp at g;subst g
    cases hx;cases i
    obtain⟨s,j,l⟩:=Ck (.int _ _) h2 h;exact⟨s,by simp only [List.foldlM_cons,Builtin.min2,AU,AZ,AL];exact j,l⟩
   ·simp at g
  ·simp at h
theorem Cl: ∀{xs:Y14}{rs:List Value}{x v:IV}{r:Value},VR M x r->cX M xs rs->tV max2 x xs=some v-> ∃s,(rs.foldlM Builtin.max2 r).run P w= .ok s w/\VR M v s
 | [],rs,x,v,r,hx,hs,h=>by
  cases rs with
  |nil=>simp [tV]at h;subst h;exact⟨r,IP,hx⟩
  |cons _ _=>simp [cX]at hs
 |y::ys,rs,x,v,r,hx,hs,h=>by
  obtain⟨q,p,rfl,i,h2⟩:=hs.uncons;unfold tV at h;split at h
  ·rename_i z g;unfold max2 at g;split at g
   ·simp at g;subst g
    cases hx;cases i
    obtain⟨s,j,l⟩:=Cl (.int _ _) h2 h;exact⟨s,by simp only [List.foldlM_cons,Builtin.max2,AU,AZ,AL];exact j,l⟩
   ·simp at g
  ·simp at h
theorem cG{P:Program}{s:Sem Value}{r:Value}(w w':World)(h:s.run P w= .ok r w'):((do pure (.value (<-s)):Sem Next).run P w)= .ok (.value r) w':=by
 simp only [AU,h,AL,AZ]
theorem S1{P:Program}{s:Sem Unit}(w w':World)(h:s.run P w= .ok () w'):((do s;pure .skip:Sem Next).run P w)= .ok .skip w':=by
 simp only [AU,h,AL,AZ]
theorem mN{t:TypeId}{b:Bool}{P:Program}(h:tW P t=some b): ∃d,P.underlying t=some d/\((∃i,d= .interface i) ↔ b=true):=by
 unfold tW at h;split at h
 ·rename_i i g;simp at h;subst h;exact⟨_,g,IP⟩
 ·rename_i d j g;simp at h;subst h;exact⟨d,g,by simp;intro i e;subst e;exact j _ rfl⟩
 ·simp at h
end
end Go.Pv
end
end
