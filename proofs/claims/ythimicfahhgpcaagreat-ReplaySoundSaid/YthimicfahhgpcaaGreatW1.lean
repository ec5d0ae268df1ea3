/-
  Texts of this proof, one after the other.
  Conditions: none.
-/
import Derived.WalkKit
import Derived.Orders
import Derived.Laws.StructEq
import Derived.WalkSpells
import Derived.Laws.BytesArg
import Derived.Laws.BytesString
import Derived.Deep.AppendSrc
import Derived.Laws.AppendOwn
import Derived.Scope
import Derived.LoopN
import Derived.Below
import Derived.Carry
import Derived.ChangeSame
import Derived.RowKit
import Derived.LaidLaws
import Derived.Test.YthimicfahhgpcaaGreatChecked
import Derived.Eval
import Derived.KernelRfl
import Derived.IntWalk
import Derived.Test.YthimicfahhgpcaaGreatRows
import Derived.ProofKit
import Derived.OpenShut
set_option linter.unusedVariables false
set_option linter.unusedSimpArgs false
set_option maxRecDepth 100000
set_option maxHeartbeats 4000000
noncomputable section
namespace Go
abbrev _root_.Y10:=Option Nat
abbrev _root_.Y11:=List UInt8
abbrev _root_.Y12:=List Int
abbrev _root_.Y13:=List Bool
theorem AA:type_of% @List.getElem?_eq_getElem:=@List.getElem?_eq_getElem
theorem AB:type_of% @Option.some.injEq:=@Option.some.injEq
theorem AC:type_of% @List.getD_eq_getElem?_getD:=@List.getD_eq_getElem?_getD
theorem AD:type_of% @Bool.and_eq_true:=@Bool.and_eq_true
theorem AE:type_of% @Option.map_eq_some_iff:=@Option.map_eq_some_iff
theorem AF:type_of% @Go.IntWalk.i64_in:=@Go.IntWalk.i64_in
theorem AG:type_of% @Nat.le_refl:=@Nat.le_refl
theorem AH:type_of% @List.getElem_mem:=@List.getElem_mem
theorem AI:type_of% @Go.Result.andThen_ok:=@Go.Result.andThen_ok
theorem AJ:type_of% @List.length_append:=@List.length_append
theorem AK:type_of% @Int.toNat_natCast:=@Int.toNat_natCast
theorem AL:type_of% @Bool.and_true:=@Bool.and_true
theorem AM:type_of% @List.take_of_length_le:=@List.take_of_length_le
theorem AN:type_of% @Nat.eq_of_beq_eq_true:=@Nat.eq_of_beq_eq_true
theorem AO:type_of% @Nat.mul_one:=@Nat.mul_one
theorem AP:type_of% @List.getElem?_eq_some_iff:=@List.getElem?_eq_some_iff
theorem AQ:type_of% @Go.Sem.run_bind:=@Go.Sem.run_bind
theorem AR:type_of% @List.length_take:=@List.length_take
theorem AS:type_of% @Nat.ble_eq:=@Nat.ble_eq
theorem AT:type_of% @Go.Sem.run_pure:=@Go.Sem.run_pure
theorem AU:type_of% @Bool.false_eq_true:=@Bool.false_eq_true
theorem AV:type_of% @Nat.lt_succ_self:=@Nat.lt_succ_self
theorem AW:type_of% @List.length_cons:=@List.length_cons
theorem AX:type_of% @Nat.zero_add:=@Nat.zero_add
theorem AY:type_of% @List.mem_cons_self:=@List.mem_cons_self
theorem AZ:type_of% @List.take_succ_eq_append_getElem:=@List.take_succ_eq_append_getElem
theorem BA:type_of% @List.getElem?_append_right:=@List.getElem?_append_right
theorem BB:type_of% @Nat.lt_or_ge:=@Nat.lt_or_ge
theorem BC:type_of% @Bool.true_and:=@Bool.true_and
theorem BD:type_of% @List.flatMap_cons:=@List.flatMap_cons
theorem BE:type_of% @Nat.zero_le:=@Nat.zero_le
theorem BF:type_of% @Option.some.inj:=@Option.some.inj
theorem BG:type_of% @List.length_map:=@List.length_map
theorem BH:type_of% @List.getElem?_eq_none:=@List.getElem?_eq_none
theorem BI:type_of% @List.cons.injEq:=@List.cons.injEq
theorem BJ:type_of% @List.getElem?_append_left:=@List.getElem?_append_left
theorem BK:type_of% @List.mem_cons_of_mem:=@List.mem_cons_of_mem
theorem BL:type_of% @List.getElem?_map:=@List.getElem?_map
theorem BM:type_of% @Bool.false_and:=@Bool.false_and
theorem BN:type_of% @List.mem_singleton:=@List.mem_singleton
theorem BO:type_of% @Bool.not_eq_false':=@Bool.not_eq_false'
theorem BP:type_of% @List.map_cons:=@List.map_cons
theorem BQ:type_of% @List.all_eq_true:=@List.all_eq_true
theorem BS:type_of% @Nat.lt_of_lt_of_le:=@Nat.lt_of_lt_of_le
theorem BT:type_of% @Prod.mk.injEq:=@Prod.mk.injEq
theorem BU:type_of% @List.mem_append:=@List.mem_append
theorem BV:type_of% @Nat.le_of_ble_eq_true:=@Nat.le_of_ble_eq_true
theorem BW:type_of% @List.length_nil:=@List.length_nil
theorem BX:type_of% @List.length_set:=@List.length_set
theorem BY:type_of% @Nat.lt_succ_of_lt:=@Nat.lt_succ_of_lt
theorem BZ:type_of% @Nat.mul_le_mul_right:=@Nat.mul_le_mul_right
theorem CA:type_of% @Int.fdiv_eq_ediv_of_nonneg:=@Int.fdiv_eq_ediv_of_nonneg
theorem CB:type_of% @List.map_append:=@List.map_append
theorem CC:type_of% @Bool.not_eq_true':=@Bool.not_eq_true'
theorem CD:type_of% @List.mem_cons:=@List.mem_cons
theorem CF:type_of% @Nat.not_lt_zero:=@Nat.not_lt_zero
theorem CG:type_of% @List.flatMap_append:=@List.flatMap_append
theorem CH:type_of% @Option.bind_eq_some_iff:=@Option.bind_eq_some_iff
theorem CI:type_of% @List.append_assoc:=@List.append_assoc
theorem CJ:type_of% @Bool.or_eq_true:=@Bool.or_eq_true
theorem CL:type_of% @Prod.mk.inj:=@Prod.mk.inj
theorem CM:type_of% @List.take_append_of_le_length:=@List.take_append_of_le_length
theorem CN:type_of% @Nat.succ_pos:=@Nat.succ_pos
theorem CO:type_of% @List.cons_append:=@List.cons_append
theorem CP:type_of% @Array.getElem?_setIfInBounds:=@Array.getElem?_setIfInBounds
theorem CQ:type_of% @Array.getD_eq_getD_getElem?:=@Array.getD_eq_getD_getElem?
theorem CR:type_of% @Array.getElem?_toList:=@Array.getElem?_toList
theorem CS:type_of% @List.eq_nil_of_length_eq_zero:=@List.eq_nil_of_length_eq_zero
theorem CT:type_of% @List.mem_iff_getElem:=@List.mem_iff_getElem
theorem CU:type_of% @Nat.add_mul:=@Nat.add_mul
theorem CV:type_of% @Option.isSome_none:=@Option.isSome_none
theorem CW:type_of% @Nat.le_trans:=@Nat.le_trans
theorem CX:type_of% @Bool.true_or:=@Bool.true_or
theorem CY:type_of% @List.ext_getElem?:=@List.ext_getElem?
theorem CZ:type_of% @List.drop_zero:=@List.drop_zero
theorem DA:type_of% @Int.tdiv_eq_ediv_of_nonneg:=@Int.tdiv_eq_ediv_of_nonneg
theorem DB:type_of% @Bool.and_false:=@Bool.and_false
theorem DC:type_of% @List.prefix_append:=@List.prefix_append
theorem DD:type_of% @List.getElem?_take_of_lt:=@List.getElem?_take_of_lt
theorem DE:type_of% @Option.map_some:=@Option.map_some
theorem DF:type_of% @List.set_eq_take_append_cons_drop:=@List.set_eq_take_append_cons_drop
theorem DG:type_of% @List.getElem?_take:=@List.getElem?_take
theorem DH:type_of% @List.take_length:=@List.take_length
theorem DI:type_of% @List.prefix_refl:=@List.prefix_refl
theorem DJ:type_of% @List.map_nil:=@List.map_nil
theorem DK:type_of% @Bool.not_false:=@Bool.not_false
theorem DL:type_of% @Array.getElem?_modify:=@Array.getElem?_modify
theorem DM:type_of% @List.length_drop:=@List.length_drop
theorem DN:type_of% @Nat.succ_mul:=@Nat.succ_mul
theorem DO:type_of% @Bool.or_true:=@Bool.or_true
theorem DP:type_of% @List.size_toArray:=@List.size_toArray
theorem DQ:type_of% @List.append_nil:=@List.append_nil
theorem DR:type_of% @List.mem_map:=@List.mem_map
theorem DS:type_of% @Bool.not_true:=@Bool.not_true
theorem DT:type_of% @Go.IntKind.wrap_i64:=@Go.IntKind.wrap_i64
theorem DU:type_of% @List.not_mem_nil:=@List.not_mem_nil
theorem DV:type_of% @List.getElem?_toArray:=@List.getElem?_toArray
theorem DW:type_of% @Int.le_refl:=@Int.le_refl
theorem DX:type_of% @List.nil_append:=@List.nil_append
theorem DY:type_of% @Int.mul_le_mul_of_nonneg_right:=@Int.mul_le_mul_of_nonneg_right
theorem DZ:type_of% @Bool.false_or:=@Bool.false_or
theorem EA:type_of% @Bool.or_false:=@Bool.or_false
theorem EB:type_of% @List.drop_succ_cons:=@List.drop_succ_cons
theorem EC:type_of% @List.mem_zipIdx_iff_getElem?:=@List.mem_zipIdx_iff_getElem?
theorem ED:type_of% @List.take_prefix:=@List.take_prefix
theorem EE:type_of% @Nat.le_succ:=@Nat.le_succ
theorem EF:type_of% @List.getElem?_drop:=@List.getElem?_drop
theorem EG:type_of% @Nat.zero_mul:=@Nat.zero_mul
theorem EH:type_of% @Int.emod_lt_of_pos:=@Int.emod_lt_of_pos
theorem EI:type_of% @Bool.false_ne_true:=@Bool.false_ne_true
theorem EJ:type_of% @List.length_replicate:=@List.length_replicate
theorem EK:type_of% @List.singleton_append:=@List.singleton_append
theorem EL:type_of% @List.all_cons:=@List.all_cons
theorem EM:type_of% @Int.tmod_eq_emod_of_nonneg:=@Int.tmod_eq_emod_of_nonneg
theorem EN:type_of% @Array.ext':=@Array.ext'
theorem EO:type_of% @List.mem_of_getElem?:=@List.mem_of_getElem?
theorem EP:type_of% @Nat.add_zero:=@Nat.add_zero
theorem EQ:type_of% @Nat.ne_of_lt:=@Nat.ne_of_lt
theorem ER:type_of% @Array.length_toList:=@Array.length_toList
theorem ES:type_of% @Nat.mul_le_mul_left:=@Nat.mul_le_mul_left
theorem ET:type_of% @List.map_congr_left:=@List.map_congr_left
theorem EU:type_of% @Nat.add_sub_cancel_left:=@Nat.add_sub_cancel_left
theorem EV:type_of% @Nat.add_assoc:=@Nat.add_assoc
theorem EW:type_of% @Int.emod_nonneg:=@Int.emod_nonneg
theorem EX:type_of% @Nat.ne_of_beq_eq_false:=@Nat.ne_of_beq_eq_false
theorem EY:type_of% @Int.mul_le_mul_of_nonneg_left:=@Int.mul_le_mul_of_nonneg_left
theorem EZ:type_of% @List.getElem_take:=@List.getElem_take
theorem FA:type_of% @Array.size_append:=@Array.size_append
theorem FB:type_of% @List.mem_range:=@List.mem_range
theorem FC:type_of% @Int.lt_or_le:=@Int.lt_or_le
theorem FE:type_of% @List.getElem_set_self:=@List.getElem_set_self
theorem FG:type_of% @List.take_append:=@List.take_append
theorem FH:type_of% @Bool.not_eq_true:=@Bool.not_eq_true
theorem FI:type_of% @Option.getD_some:=@Option.getD_some
theorem FJ:type_of% @Nat.pow_le_pow_right:=@Nat.pow_le_pow_right
theorem FK:type_of% @List.mem_of_mem_take:=@List.mem_of_mem_take
theorem FL:type_of% @List.map_drop:=@List.map_drop
theorem FM:type_of% @List.take_succ_cons:=@List.take_succ_cons
theorem FO:type_of% @Array.getElem?_push:=@Array.getElem?_push
theorem FP:type_of% @List.getElem?_range:=@List.getElem?_range
theorem FQ:type_of% @List.extract_eq_take_drop:=@List.extract_eq_take_drop
theorem FS:type_of% @Bool.eq_iff_iff:=@Bool.eq_iff_iff
theorem FT:type_of% @Int.mul_comm:=@Int.mul_comm
theorem FU:type_of% @Nat.ne_of_gt:=@Nat.ne_of_gt
theorem FV:type_of% @Nat.testBit_or:=@Nat.testBit_or
theorem FW:type_of% @List.getElem?_cons_succ:=@List.getElem?_cons_succ
theorem FX:type_of% @List.getElem_drop:=@List.getElem_drop
theorem FY:type_of% @Nat.le_succ_of_le:=@Nat.le_succ_of_le
theorem FZ:type_of% @List.flatten_cons:=@List.flatten_cons
theorem GA:type_of% @List.getElem_cons_zero:=@List.getElem_cons_zero
theorem GB:type_of% @List.getElem_cons_succ:=@List.getElem_cons_succ
theorem GC:type_of% @Nat.le_of_succ_le_succ:=@Nat.le_of_succ_le_succ
theorem GD:type_of% @Int.mul_assoc:=@Int.mul_assoc
theorem GE:type_of% @Array.all_eq_true_iff_forall_mem:=@Array.all_eq_true_iff_forall_mem
theorem GG:type_of% @Nat.le_max_right:=@Nat.le_max_right
theorem GH:type_of% @Nat.div_lt_iff_lt_mul:=@Nat.div_lt_iff_lt_mul
theorem GI:type_of% @Nat.min_eq_left:=@Nat.min_eq_left
theorem GJ:type_of% @List.mem_filter:=@List.mem_filter
theorem GK:type_of% @Nat.div_add_mod:=@Nat.div_add_mod
theorem GL:type_of% @Nat.and_two_pow_sub_one_eq_mod:=@Nat.and_two_pow_sub_one_eq_mod
theorem GM:type_of% @Nat.log2_eq_iff:=@Nat.log2_eq_iff
theorem GN:type_of% @Int.mul_le_mul_of_nonpos_right:=@Int.mul_le_mul_of_nonpos_right
theorem GO:type_of% @Int.tmod_nonneg:=@Int.tmod_nonneg
theorem GP:type_of% @List.replicate_succ':=@List.replicate_succ'
theorem GQ:type_of% @Nat.sub_self:=@Nat.sub_self
theorem GR:type_of% @Int.emod_emod_of_dvd:=@Int.emod_emod_of_dvd
theorem GS:type_of% @List.getElem_of_mem:=@List.getElem_of_mem
theorem GU:type_of% @Array.toList_append:=@Array.toList_append
theorem GV:type_of% @Array.toList_modify:=@Array.toList_modify
theorem GW:type_of% @List.replicate_succ:=@List.replicate_succ
theorem GX:type_of% @Int.toNat_of_nonneg:=@Int.toNat_of_nonneg
theorem GY:type_of% @List.getD_cons_zero:=@List.getD_cons_zero
theorem GZ:type_of% @List.getD_cons_succ:=@List.getD_cons_succ
theorem HA:type_of% @List.take_set_of_le:=@List.take_set_of_le
theorem HB:type_of% @Go.IntWalk.u64_in:=@Go.IntWalk.u64_in
theorem HC:type_of% @List.mem_filterMap:=@List.mem_filterMap
theorem HD:type_of% @List.pairwise_cons:=@List.pairwise_cons
theorem HE:type_of% @Array.toList_setIfInBounds:=@Array.toList_setIfInBounds
theorem HG:type_of% @Array.getElem?_eq_some_iff:=@Array.getElem?_eq_some_iff
theorem HH:type_of% @Array.getElem?_append_left:=@Array.getElem?_append_left
theorem HI:type_of% @List.map_take:=@List.map_take
theorem HJ:type_of% @List.length_range:=@List.length_range
theorem HK:type_of% @Decidable.not_not:=@Decidable.not_not
theorem HL:type_of% @Array.mapM_eq_mapM_toList:=@Array.mapM_eq_mapM_toList
theorem HM:type_of% @Nat.mod_lt:=@Nat.mod_lt
theorem HN:type_of% @Array.getElem?_eq_getElem:=@Array.getElem?_eq_getElem
theorem HO:type_of% @List.pairwise_iff_getElem:=@List.pairwise_iff_getElem
theorem HQ:type_of% @List.mem_or_eq_of_mem_set:=@List.mem_or_eq_of_mem_set
theorem HR:type_of% @List.drop_append:=@List.drop_append
theorem HS:type_of% @Array.toList_map:=@Array.toList_map
theorem HT:type_of% @List.map_toArray:=@List.map_toArray
theorem HU:type_of% @Array.getElem?_replicate:=@Array.getElem?_replicate
theorem HV:type_of% @Nat.mul_comm:=@Nat.mul_comm
theorem HW:type_of% @Bool.not_not:=@Bool.not_not
theorem HX:type_of% @List.getElem?_replicate:=@List.getElem?_replicate
theorem HY:type_of% @Option.map_none:=@Option.map_none
theorem HZ:type_of% @Nat.le_max_left:=@Nat.le_max_left
theorem IA:type_of% @Int.ediv_nonneg:=@Int.ediv_nonneg
theorem IB:type_of% @Int.natAbs_tmod:=@Int.natAbs_tmod
theorem ID:type_of% @List.drop_of_length_le:=@List.drop_of_length_le
theorem IE:type_of% @List.take_take:=@List.take_take
theorem IF:type_of% @List.mapM_cons:=@List.mapM_cons
theorem IG:type_of% @Nat.le_div_iff_mul_le:=@Nat.le_div_iff_mul_le
theorem IH:type_of% @Int.le_ediv_of_mul_le:=@Int.le_ediv_of_mul_le
theorem II:type_of% @List.pairwise_append:=@List.pairwise_append
theorem IJ:type_of% @List.getElem?_set_ne:=@List.getElem?_set_ne
theorem IM:type_of% @List.mem_of_mem_drop:=@List.mem_of_mem_drop
theorem IN:type_of% @Bool.and_self:=@Bool.and_self
theorem IQ:type_of% @List.any_cons:=@List.any_cons
theorem IR:type_of% @List.getElem_append:=@List.getElem_append
theorem IT:type_of% @List.set_cons_succ:=@List.set_cons_succ
theorem IU:type_of% @Nat.le_of_eq:=@Nat.le_of_eq
theorem IW:type_of% @Nat.beq_refl:=@Nat.beq_refl
theorem IX:type_of% @Nat.sub_zero:=@Nat.sub_zero
theorem IY:type_of% @Nat.eq_zero_or_pos:=@Nat.eq_zero_or_pos
theorem JA:type_of% @Nat.lt_trans:=@Nat.lt_trans
theorem JB:type_of% @Int.dvd_refl:=@Int.dvd_refl
theorem JC:type_of% @Nat.mul_pos:=@Nat.mul_pos
theorem JD:type_of% @Nat.pow_pos:=@Nat.pow_pos
theorem JE:type_of% @Int.pow_pos:=@Int.pow_pos
end Go
theorem Go.JF{p:Prop}(h:p:=by omega):p:=h
theorem Go.JG{p:Prop}(h:p:=by decide):p:=h
theorem Go.JH{p:Prop}(h:p:=by simp):p:=h
theorem Go.JI{p:Prop}(h:p:=by exact Nat.le_of_ble_eq_true rfl):p:=h
theorem Go.JJ{p:Prop}(h:p:=by first|rfl|exact True.intro):p:=h
theorem Go.JK{p:Prop}(h:p:=by dsimp only;omega):p:=h
variable{i j k m n b q:Nat}{x y z u w:Int}{K L:Y12}{V W:List Go.Value}{U:Go.TypeId}{o:Bool}{X Y:Go.Value}{r e:Y11}{O:Go.Oper}{N:Y10}{H:Array Go.Value}
section
namespace Go.Pv
inductive IV where
 |bool (b:Bool)
 |int (k:IntKind) (n:Int)
 |str (s:Y11)
 |nilptr
 |ptr (id off:Nat)
 |vref (cs:List IV) (off:Nat)
 |nilslice
 |hslice (id off len sz:Nat)
 |vslice (id:Y10) (e len sz:Nat) (cs:List IV)
 |nilmap
 |map (id:Nat)
 |func (fn:Fn) (first captured:List IV)
 |nilfunc
 |iface (t:TypeId) (v:IV)
 |nilIface
 |agg (cs:List IV)
 |tuple (vs:List IV)
 deriving Inhabited
abbrev _root_.Y14:=List IV
inductive TV where
 |v (x:IV)
 |l (s off:Nat)
 |u
 deriving Inhabited
inductive PT(α:Type) where
 |nil
 |node (l:PT α) (v:Option α) (r:PT α)
 deriving Inhabited
namespace PT
variable {α:Type}
def get:PT α->Nat->Option α
 |nil,_=>none
 |node l v r,k=>if k=0 then v else if k%2=1 then l.get ((k-1)/2)else r.get ((k-2)/2)
def left:PT α->PT α
 |nil=>nil
 |node l _ _=>l
def right:PT α->PT α
 |nil=>nil
 |node _ _ r=>r
def val:PT α->Option α
 |nil=>none
 |node _ v _=>v
def X0:Nat->PT α->Nat->Option α->PT α
 |0,t,_,_=>t
 |n+1,t,k,x=>
  if k=0 then node t.left x t.right
  else if k%2=1 then node (X0 n t.left ((k-1)/2) x) t.val t.right
  else node t.left t.val (X0 n t.right ((k-2)/2) x)
def set(t:PT α)(k:Nat)(x:Option α):PT α:=X0 (k+1) t k x
def filt(f:α->Bool):PT α->PT α
 |nil=>nil
 |node l v r=>node (l.filt f) (match v with|some x=>if f x then some x else none|none=>none) (r.filt f)
end PT
inductive IObj where
 |cells (cs:Y14)
 |tip (n:Nat)
 |map (es:List (IV×IV))
 |dead
 |free
 deriving Inhabited
structure Heap where
 o:PT IObj
 next:Nat
 deriving Inhabited
def Heap.get(h:Heap)(id:Nat):IObj:=(h.o.get id).getD .dead
def Heap.set(h:Heap)(id:Nat)(x:IObj):Heap:= {h with o:=h.o.set id (some x) }
def Heap.push(h:Heap)(x:IObj):Heap:= {o:=h.o.set h.next (some x),next:=h.next+1 }
def Heap.empty:Heap:=⟨.nil,0⟩
def Heap.reserve(h:Heap):Nat->Heap
 |0=>h
 |k+1=>(h.reserve k).push .free
structure Fr where
 tm:PT TV
 lv:PT (Y14)
 deriving Inhabited
structure Env where
 P:Program
 G:Nat->Option (Y14)
 A:FuncId->Nat->Nat
 bx:FuncId->Nat->Nat
 fz:FuncId->Bool
 nf:FuncId->Bool
 iso:FuncId->Bool
 ld:FuncId->Nat->Bool:=fun _ _=>false
 ln:FuncId->Nat->Nat:=fun _ _=>0
 an:FuncId->Nat->List Nat:=fun _ _=>[]
 od:FuncId->Nat->List Nat:=fun _ _=>[]
 nr:FuncId->Bool:=fun _=>false
 fm:FuncId->Nat->Bool:=fun _ _=>false
 fd:FuncId->Bool:=fun _=>false
def isCell:IV->Bool
 | .agg _=>false
 | .tuple _=>false
 |_=>true
def rH:IV->Bool
 | .tuple _=>false
 |_=>true
def Fg:Value->Option IV
 | .bool b=>some (.bool b)
 | .int k n=>some (.int k n)
 | .string s=>some (.str s.data.toList)
 | .pointer none=>some .nilptr
 | .slice none 0 0=>some .nilslice
 | .map none=>some .nilmap
 | .nilFunc=>some .nilfunc
 | .nilIface=>some .nilIface
 |_=>none
def sZ:List Value->Option (Y14)
 | []=>some []
 |v::r=>match Fg v,sZ r with
  |some x,some xs=>some (x::xs)
  |_,_=>none
def ofValue:Value->Option IV
 | .agg cs=>(sZ cs.toList).map .agg
 |v=>Fg v
def cellsOf:IV->Y14
 | .agg cs=>cs
 |v=>[v]
section
variable (P:Program)
def gP(t:TypeId):Y10:=(P.info? t).map (·.size)
def jI(t:TypeId):Y10:=(P.info? t).map (·.bytes)
def dD(t:TypeId):Option IV:=((P.info? t).bind (·.zero)).bind ofValue
def N6:TypeDesc->Bool
 | .struct _=>true
 | .array _ _=>true
 |_=>false
def gJ(t:TypeId):Option (Bool×Nat):=
 match P.underlying t,P.info? t with
 |some d,some i=>some (N6 d,i.size)
 |_,_=>none
def fJ(t:TypeId)(cs:Y14)(g:Nat):Option IV:=
 match gJ P t with
 |some (true,n)=>if g+n<=cs.length then some (.agg ((cs.drop g).take n))else none
 |some (false,_)=>cs[g]?
 |none=>none
def Bo(t:TypeId)(cs:Y14)(g:Nat)(v:IV):Option (Y14):=
 let c:=cellsOf v
 if rH v then
  match gP P t with
  |some n=>if c.length=n/\g+n<=cs.length then some (cs.take g++c++cs.drop (g+n))else none
  |none=>none
 else none
def H9(t:TypeId)(f:Nat):Option (TypeId×Nat):=
 match P.underlying t with
 |some (.struct fs)=>(fs[f]?).map fun x=>(x.type,x.offset)
 |_=>none
end
inductive CK where
 |int (k:IntKind)
 |bool
 |str
 |slc (sz:Nat)
 |any
def G5(P:Program)(t:TypeId):CK:=match P.underlying t with
 |some (.int k)=> .int k
 |some .bool=> .bool
 |some .string=> .str
 |some (.slice e)=>match gP P e with
  |some sz=> .slc sz
  |none=> .any
 |_=> .any
def rep{α:Type} :Nat->List α->List α
 |0,_=>[]
 |n+1,l=>l++rep n l
def vB(P:Program):Nat->TypeId->List CK
 |0,_=>[]
 |n+1,t=>match P.underlying t with
  |some (.struct fs)=>fs.toList.flatMap fun x=>vB P n x.type
  |some (.array m e)=>rep m (vB P n e)
  |_=>[G5 P t]
def B3:CK->IV->IV
 | .slc sz,.nilslice=> .vslice none 0 0 sz []
 | .slc _,.vslice _ _ len z cs=> .vslice none 0 len z cs
 |_,v=>v
def pA:List CK->Y14->Y14
 |ck::r,v::vs=>B3 ck v::pA r vs
 |_,vs=>vs
def Fj(P:Program)(t:TypeId)(v:IV):IV:=match v with
 | .agg cs=> .agg (pA (vB P 8 t) cs)
 |v=>B3 (G5 P t) v
def iX(P:Program):List TypeId->Y14->Y14
 |t::ts,v::vs=>Fj P t v::iX P ts vs
 |_,vs=>vs
mutual
def bG:IV->Bool
 | .ptr _ _=>false
 | .hslice _ _ _ _=>false
 | .map _=>false
 | .vslice none _ _ _ cs=>aP cs
 | .vslice (some _) _ _ _ _=>false
 | .func _ xs ys=>aP xs&&aP ys
 | .iface _ v=>bG v
 | .agg cs=>aP cs
 | .tuple cs=>aP cs
 | .vref cs _=>aP cs
 |_=>true
def aP:Y14->Bool
 | []=>true
 |v::r=>bG v&&aP r
end
def spl(g:Y14)(j:Nat)(c:Y14):Y14:=g.take j++c++g.drop (j+c.length)
def oK(j:Nat->Option (Nat×Nat))(g:Y14):List (Nat×IV)->Option (Y14)
 | []=>some g
 | (i,v)::r=>
  match j i with
  |none=>none
  |some (off,n)=>if(cellsOf v).length=n/\off+n<=g.length/\rH v=true then oK j (spl g off (cellsOf v)) r else none
def I9(P:Program)(g:Array Field)(i:Nat):Option (Nat×Nat):=(g[i]?).map fun x=>(x.offset,P.cellsOf x.type)
def dY(n:Nat)(z:Y14):Y14:=
 match n with
 |0=>[]
 |n+1=>z++dY n z
def cW(k:IntKind)(a b:Int):Int:=k.wrap (BitVec.ofInt k.bits a&&&BitVec.ofInt k.bits b).toNat
def c6W(k:IntKind)(a b:Int):Int:=k.wrap (BitVec.ofInt k.bits a|||BitVec.ofInt k.bits b).toNat
def D6(k:IntKind)(a b:Int):Int:=k.wrap (BitVec.ofInt k.bits a^^^BitVec.ofInt k.bits b).toNat
def a3S(k:IntKind)(a b:Int):Int:=k.wrap (BitVec.ofInt k.bits a&&& ~~~ BitVec.ofInt k.bits b).toNat
def sX(op:BinOp)(k:IntKind)(a b:Int):Option IV:=
 match op with
 | .add=>some (.int k (k.wrap (a+b)))
 | .sub=>some (.int k (k.wrap (a-b)))
 | .mul=>some (.int k (k.wrap (a*b)))
 | .quo=>if b=0 then none else some (.int k (k.wrap (a.tdiv b)))
 | .rem=>if b=0 then none else some (.int k (a.tmod b))
 | .and=>some (.int k (cW k a b))
 | .or=>some (.int k (c6W k a b))
 | .xor=>some (.int k (D6 k a b))
 | .andNot=>some (.int k (a3S k a b))
 | .eql=>some (.bool (a==b))
 | .neq=>some (.bool (a !=b))
 | .lss=>some (.bool (a<b))
 | .leq=>some (.bool (a<=b))
 | .gtr=>some (.bool (a>b))
 | .geq=>some (.bool (a>=b))
 |_=>none
def pV(op:BinOp)(k:IntKind)(a b:Int):Option IV:=
 if b<0 then none
 else match op with
  | .shl=>some (.int k (k.wrap (a*2^ (min b.toNat k.bits))))
  | .shr=>some (.int k (a.fdiv (2^ (min b.toNat k.bits))))
  |_=>none
def T2(op:BinOp)(x y:Y11):Option IV:=
 match op with
 | .add=>if((x.length+y.length:Nat):Int)>9223372036854775807 then none else some (.str (x++y))
 | .eql=>some (.bool (x==y))
 | .neq=>some (.bool (!(x==y)))
 | .lss=>some (.bool (Op.bytesLess x y))
 | .leq=>some (.bool (Op.bytesLess x y||x==y))
 | .gtr=>some (.bool (!(Op.bytesLess x y||x==y)))
 | .geq=>some (.bool (!Op.bytesLess x y))
 |_=>none
def dH:TypeDesc->IV->IV->Option Bool
 | .bool,.bool a,.bool b=>some (a==b)
 | .int _,.int k a,.int k' b=>if k=k' then some (a==b)else none
 | .string,.str a,.str b=>some (a==b)
 |_,_,_=>none
section
variable (P:Program)
def nE:List Field->Y14->Y14->Option Bool
 | [],_,_=>some true
 |f::fs,xs,ys=>
  if f.name == "_" then none else
  match P.underlying f.type,xs[f.offset]?,ys[f.offset]? with
  |some d,some x,some y=>match dH d x y with
   |some true=>nE fs xs ys
   |some false=>some false
   |none=>none
  |_,_,_=>none
def Zv(c:Bool)(t:TypeId)(x y:IV):Option Bool:=
 match P.underlying t with
 |some (.struct fs)=>
  match x,y with
  | .agg xs,.agg ys=>if P.stoodInHeld t||P.eqGuardType P.depth t then none else nE P fs.toList xs ys
  |_,_=>none
 |some (.pointer _)=>
  match x,y with
  | .nilptr,.nilptr=>some true
  | .nilptr,.ptr _ _| .nilptr,.vref _ _| .ptr _ _,.nilptr| .vref _ _,.nilptr=>some false
  |_,_=>none
 |some (.interface _)=>
  match x,y with
  | .nilIface,.nilIface=>if c then some true else none
  | .nilIface,.iface _ _| .iface _ _,.nilIface=>some false
  |_,_=>none
 |some (.slice _)=>
  match x,y with
  | .nilslice,.nilslice=>some true
  | .nilslice,.hslice .. | .hslice ..,.nilslice=>some false
  | .nilslice,.vslice id e len _ _=>if id.isSome|| (e==1)||decide (0<len)then some false else none
  | .vslice id e len _ _,.nilslice=>if id.isSome|| (e==1)||decide (0<len)then some false else none
  |_,_=>none
 |some (.map _ _)=>
  match x,y with
  | .nilmap,.nilmap=>some true
  | .nilmap,.map _| .map _,.nilmap=>some false
  |_,_=>none
 |some (.func _ _ _)=>
  match x,y with
  | .nilfunc,.nilfunc=>some true
  | .nilfunc,.func .. | .func ..,.nilfunc=>some false
  |_,_=>none
 |some d=>dH d x y
 |none=>none
def oI(op:BinOp)(c:Bool)(t:TypeId)(x y:IV):Option IV:=
 match x,y with
 | .int k a,.int k' b=>
  match op with
  | .shl=>pV .shl k a b
  | .shr=>pV .shr k a b
  |op=>if k=k' then sX op k a b else none
 | .str a,.str b=>T2 op a b
 |x,y=>
  match op with
  | .eql=>(Zv P c t x y).map .bool
  | .neq=>(Zv P c t x y).map fun b=> .bool (!b)
  |_=>none
def d1W(op:UnOp)(x:IV):Option IV:=
 match op,x with
 | .neg,.int k n=>some (.int k (k.wrap (0-n)))
 | .xor,.int k n=>sX .xor k (if k.signed then-1 else k.max) n
 | .not,.bool b=>some (.bool (!b))
 |_,_=>none
def jH:Y14->Option (Y11)
 | []=>some []
 | .int .u8 n::r=>(jH r).map (UInt8.ofNat n.toNat:: ·)
 |_=>none
def Dg(s d:TypeId)(x:IV):Option IV:=
 match P.underlying s,P.underlying d with
 |some ds,some dd=>
  match dd,x with
  | .int k,.int _ n=>some (.int k (k.wrap n))
  | .string,.str b=>some (.str b)
  | .string,x=>
   match ds with
   | .slice e=>match P.underlying e with
    |some (.int .u8)=>match x with
     | .nilslice=>some (.str [])
     | .vslice _ _ _ 1 cs=>(jH cs).map .str
     |_=>none
    |_=>none
   |_=>none
  |_,_=>none
 |_,_=>none
def W3:Option TV->Option Int
 |some (.v (.int _ n))=>some n
 |_=>none
def iC(len:Nat)(j g:Option (Option TV)):Option (Nat×Nat):=
 let h:=match g with
  |none=>some (len:Int)
  |some x=>W3 x
 let l:=match j with
  |none=>some (0:Int)
  |some x=>W3 x
 match l,h with
 |some l,some h=>if 0<=l/\l<=h/\h<=len then some (l.toNat,h.toNat)else none
 |_,_=>none
def rN(t:TypeId)(x:IV)(j g:Option (Option TV)):Option IV:=
 match P.underlying t with
 |some .string=>match x with
  | .str s=>(iC s.length j g).map fun(l,h)=> .str ((s.drop l).take (h-l))
  |_=>none
 |some (.slice e)=>match gP P e with
  |some sz=>match x with
   | .nilslice=>(iC 0 j g).map fun _=> .nilslice
   | .hslice id off len z=>if z=sz then(iC len j g).map fun(l,h)=> .hslice id (off+l*sz) (h-l) sz else none
   | .vslice id e len z cs=>if z=sz then(iC len j g).map fun(l,h)=> .vslice id (e- (len-h)*sz) (h-l) sz ((cs.drop (l*sz)).take ((h-l)*sz))else none
   |_=>none
  |none=>none
 |_=>none
end
section
variable (E:Env)
def aX(j:Nat->Option TV):Operand->Option TV
 | .tmp t=>j t
 | .const v=>(ofValue v).map .v
 | .global g=>(E.G g).map fun cs=> .v (.vref cs 0)
 | .func f=>some (.v (.func (.func f) [] []))
end
def bE:Option TV->Option IV
 |some (.v x)=>some x
 |_=>none
def pB:List (Option TV)->Option (Y14)
 | []=>some []
 |x::r=>match bE x,pB r with
  |some v,some vs=>some (v::vs)
  |_,_=>none
def jN:List (Nat×Option TV)->Option (List (Nat×IV))
 | []=>some []
 | (i,x)::r=>match bE x,jN r with
  |some v,some vs=>some ((i,v)::vs)
  |_,_=>none
def lN:Operand->Bool
 | .const _=>true
 |_=>false
def min2:IV->IV->Option IV
 | .int k x,.int _ y=>some (.int k (if y<x then y else x))
 |_,_=>none
def max2:IV->IV->Option IV
 | .int k x,.int _ y=>some (.int k (if y>x then y else x))
 |_,_=>none
def sU(f:IV->IV->Option IV):IV->Y14->Option IV
 |x,[]=>some x
 |x,y::r=>match f x y with
  |some z=>sU f z r
  |none=>none
def mX(n:Nat):TV->Option TV
 | .l s off=>some (.l s (off+n))
 | .v (.ptr id off)=>some (.v (.ptr id (off+n)))
 | .v (.vref cs off)=>some (.v (.vref cs (off+n)))
 |_=>none
def xL(P:Program)(t:TypeId):Option Bool:=
 match P.underlying t with
 |some (.interface _)=>some true
 |some _=>some false
 |none=>none
section
variable (E:Env) (f:FuncId) (o:Oper) (ev:Operand->Option TV) (lv:Nat->Option (Y14)) (h:Heap)
def c9R:Bool:=match o.dst with
 |some d=>E.fm f d
 |none=>false
def eH:Option (TV×Option (Y14)):=
 match o.op with
 | .move x=>if c9R E f o=true then none else(ev x).map (·,none)
 | .assign x=>(ev x).map (·,none)
 | .pick c a b=>match ev c with
  |some (.v (.bool true))=>(ev a).map (·,none)
  |some (.v (.bool false))=>(ev b).map (·,none)
  |_=>none
 | .alloc t=>match o.dst with
  |some d=>if E.bx f d=0 then(dD E.P t).map fun z=>(.l d 0,some (cellsOf z))else none
  |none=>none
 | .box _ x=>match o.dst,bE (ev x)with
  |some d,some v=>if E.bx f d=0/\rH v=true then some (.l d 0,some (cellsOf v))else none
  |_,_=>none
 | .build t parts=>
  match dD E.P t,jN (parts.toList.map fun(i,x)=>(i,ev x))with
  |some z,some ps=>
   match E.P.underlying t with
   |some (.struct fs)=>if fs.toList.all (fun x=>(E.P.info? x.type).isSome)then(oK (I9 E.P fs) (cellsOf z) ps).map fun cs=>(.v (.agg cs),none)else none
   |some (.array _ e)=>match gP E.P e with
    |some n=>(oK (fun i=>some (i*n,n)) (cellsOf z) ps).map fun cs=>(.v (.agg cs),none)
    |none=>none
   |_=>none
  |_,_=>none
 | .buildSlice t n parts=>match E.P.underlying t,o.dst with
  |some (.slice e),some d=>if E.A f d=0 then match gP E.P e,dD E.P e,jN (parts.toList.map fun(i,x)=>(i,ev x))with
   |some (sz+1),some z,some ps=>if n*(sz+1)<=16777216/\(cellsOf z).length=sz+1 then
    (oK (fun i=>some (i*(sz+1),sz+1)) (dY n (cellsOf z)) ps).map fun cs=>(.v (.vslice none 1 n (sz+1) (match E.nf f with|true=>pA (rep n (vB E.P 8 e)) cs|false=>cs)),none)
    else none
   |_,_,_=>none
   else none
  |_,_=>none
 | .load t a=>match ev a with
  |some (.v (.vref cs off))=>(fJ E.P t cs off).map fun v=>(.v v,none)
  |_=>none
 | .nilCheck x=>match ev x with
  |some (.l s off)=>some (.l s off,none)
  |some (.v (.ptr id off))=>some (.v (.ptr id off),none)
  |some (.v (.vref cs off))=>some (.v (.vref cs off),none)
  |some (.v (.func (.func g) a b))=>some (.v (.func (.func g) a b),none)
  |some (.v (.iface t v))=>some (.v (.iface t v),none)
  |_=>none
 | .binOp op t x y _=>match bE (ev x),bE (ev y)with
  |some a,some b=>(oI E.P op (lN x||lN y) t a b).map fun v=>(.v v,none)
  |_,_=>none
 | .unOp op _ x=>match bE (ev x)with
  |some a=>(d1W op a).map fun v=>(.v v,none)
  |none=>none
 | .convert s d x=>match bE (ev x)with
  |some a=>(Dg E.P s d a).map fun v=>(.v v,none)
  |none=>none
 | .makeInterface t x=>match xL E.P t,bE (ev x)with
  |some false,some a=>some (.v (.iface t a),none)
  |_,_=>none
 | .makeFunc fn a b=>match pB (a.toList.map ev),pB (b.toList.map ev)with
  |some xs,some ys=>some (.v (.func fn xs ys),none)
  |_,_=>none
 | .slice t x lo hi mx=>match mx,bE (ev x)with
  |none,some a=>(rN E.P t a (lo.map ev) (hi.map ev)).map fun v=>(.v v,none)
  |_,_=>none
 | .fieldAddr t x i=>match H9 E.P t i,ev x with
  |some (ft,off),some a=>match gP E.P ft with
   |some (_+1)=>(mX off a).map (·,none)
   |_=>none
  |_,_=>none
 | .field t x i=>match H9 E.P t i,bE (ev x)with
  |some (ft,off),some (.agg cs)=>(fJ E.P ft cs off).map fun v=>(.v v,none)
  |_,_=>none
 | .indexAddr t x ix=>match W3 (ev ix),E.P.underlying t with
  |some i,some (.array n e)=>match gP E.P e,ev x with
   |some sz,some a=>if 0<=i/\i<n then(mX (i.toNat*sz) a).map (·,none)else none
   |_,_=>none
  |some i,some (.slice e)=>match gP E.P e,bE (ev x)with
   |some sz,some (.vslice _ _ len z cs)=>if 0<=i/\i<len/\z=sz then some (.v (.vref cs (i.toNat*sz)),none)else none
   |some sz,some (.hslice id off len z)=>if 0<=i/\i<len/\z=sz then some (.v (.ptr id (off+i.toNat*sz)),none)else none
   |_,_=>none
  |_,_=>none
 | .index t x ix=>match W3 (ev ix),E.P.underlying t,bE (ev x)with
  |some i,some (.array n e),some (.agg cs)=>match gP E.P e with
   |some sz=>if 0<=i/\i<n then(fJ E.P e cs (i.toNat*sz)).map fun v=>(.v v,none)else none
   |none=>none
  |some i,some .string,some (.str s)=>if 0<=i then(s[i.toNat]?).map fun b=>(.v (.int .u8 b.toNat),none)else none
  |_,_,_=>none
 | .extract x i=>match bE (ev x)with
  |some (.tuple vs)=>(vs[i]?).map fun v=>(.v v,none)
  |_=>none
 | .typeAssert x _ t ok=>match xL E.P t,bE (ev x)with
  |some false,some (.iface u v)=>
   if u=t then(if ok then some (.v (.tuple [v,.bool true]),none)else some (.v v,none))
   else if ok then(dD E.P t).map fun z=>(.v (.tuple [z,.bool false]),none)else none
  |some false,some .nilIface=>if ok then(dD E.P t).map fun z=>(.v (.tuple [z,.bool false]),none)else none
  |_,_=>none
 | .call {callee:= .builtin .len,args,argTypes } =>
  match argTypes[0]?,(args[0]?).bind fun x=>bE (ev x)with
  |some t,some x=>
   match E.P.underlying t,x with
   |some .string,.str s=>some (.v (.int .i64 s.length),none)
   |some (.slice _),.nilslice=>some (.v (.int .i64 0),none)
   |some (.slice _),.hslice _ _ len _=>some (.v (.int .i64 len),none)
   |some (.slice _),.vslice _ _ len _ _=>some (.v (.int .i64 len),none)
   |some (.map _ _),.nilmap=>some (.v (.int .i64 0),none)
   |some (.array n _),_=>some (.v (.int .i64 n),none)
   |_,_=>none
  |_,_=>none
 | .call {callee:= .builtin .min,args,.. } =>match pB (args.toList.map ev)with
  |some (x::r)=>(sU min2 x r).map fun v=>(.v v,none)
  |_=>none
 | .call {callee:= .builtin .max,args,.. } =>match pB (args.toList.map ev)with
  |some (x::r)=>(sU max2 x r).map fun v=>(.v v,none)
  |_=>none
 |_=>none
def gB:Option TV:=
 match o.op with
 | .load t a=>match ev a with
  |some (.l s off)=>match lv s with
   |some cs=>(fJ E.P t cs off).map .v
   |none=>none
  |_=>none
 |_=>none
def iG:Option (Nat×Y14):=
 match o.op with
 | .store t a x=>match ev a,bE (ev x)with
  |some (.l s off),some v=>match lv s with
   |some cs=>(Bo E.P t cs off v).map (s,·)
   |none=>none
  |_,_=>none
 |_=>none
def oL:TypeDesc->IV->Bool
 | .bool,.bool _=>true
 | .int _,.int _ _=>true
 | .string,.str _=>true
 |_,_=>false
def fE(d:TypeDesc)(k:IV):List (IV×IV)->Option (Option IV)
 | []=>some none
 | (x,v)::r=>match dH d k x with
  |some true=>some (some v)
  |some false=>fE d k r
  |none=>none
def nT(d:TypeDesc)(k v:IV):List (IV×IV)->Option (List (IV×IV))
 | []=>some [(k,v)]
 | (x,u)::r=>match dH d k x with
  |some true=>some ((k,v)::r)
  |some false=>(nT d k v r).map ((x,u):: ·)
  |none=>none
def oN(d:TypeDesc)(k:IV):List (IV×IV)->Nat
 | []=>0
 | (x,_)::r=>match dH d k x with
  |some true=>0
  |_=>oN d k r+1
def Ba(v:IV):Nat->List (IV×IV)->List (IV×IV)
 |_,[]=>[]
 |0,(k,_)::r=>(k,v)::r
 |n+1,e::r=>e::Ba v n r
def a5V(d:TypeDesc)(k z:IV)(g:List (IV×IV)):Option (IV×Nat×List (IV×IV)):=match fE d k g with
 |some (some v)=>(nT d k v g).map fun es'=>(v,oN d k g,es')
 |some none=>some (z,g.length,g++ [(k,z)])
 |none=>none
def dR:Option TV:=
 match o.op with
 | .load t a=>match ev a with
  |some (.v (.ptr id off))=>match h.get id with
   | .cells cs=>(fJ E.P t cs off).map .v
   |_=>none
  |_=>none
 | .convert s d x=>match E.P.underlying s,E.P.underlying d,bE (ev x)with
  |some (.slice e),some .string,some (.hslice id off len 1)=>match E.P.underlying e,h.get id with
   |some (.int .u8),.cells cs=>if off+len<=cs.length then(jH ((cs.drop off).take len)).map fun b=> .v (.str b)else none
   |_,_=>none
  |_,_,_=>none
 | .slice t x lo hi mx=>match mx,E.P.underlying t,ev x with
  |none,some (.array n e),some (.v (.ptr id off))=>match h.get id,gP E.P e with
   | .cells cs,some (sz+1)=>if off+n*(sz+1)<=cs.length then(iC n (lo.map ev) (hi.map ev)).map fun(l,k)=> .v (.hslice id (off+l*(sz+1)) (k-l) (sz+1))else none
   |_,_=>none
  |_,_,_=>none
 | .lookup t x k ok=>match E.P.underlying t,bE (ev x),bE (ev k)with
  |some (.map kt et),some m,some key=>
   match E.P.underlying kt,(match m with| .nilmap=>some []| .map id=>(match h.get id with| .map es=>some es|_=>none)|_=>none)with
   |some d,some es=>if oL d key then match fE d key es with
    |some (some v)=>some (.v (if ok then .tuple [v,.bool true]else v))
    |some none=>(dD E.P et).map fun z=> .v (if ok then .tuple [z,.bool false]else z)
    |none=>none
    else none
   |_,_=>none
  |_,_,_=>none
 | .call {callee:= .builtin .len,args,argTypes } =>
  match argTypes[0]?,(args[0]?).bind fun x=>bE (ev x)with
  |some t,some (.map id)=>match E.P.underlying t,h.get id with
   |some (.map _ _),.map es=>some (.v (.int .i64 es.length))
   |_,_=>none
  |_,_=>none
 |_=>none
def fX(sz:Nat)(x:IV):Option (Nat×Y14):=
 match x with
 | .nilslice=>some (0,[])
 | .vslice _ _ len z cs=>if z=sz then some (len,cs)else none
 | .hslice id off len z=>if z=sz then(match h.get id with
  | .cells cs=>if off+len*sz<=cs.length then some (len,(cs.drop off).take (len*sz))else none
  |_=>none)else none
 | .str s=>if sz=1 then some (s.length,s.map fun b=> .int .u8 b.toNat)else none
 |_=>none
def newRow(g len sz:Nat)(cs:Y14):IV×Heap:=
 if g=0 then(.vslice (some h.next) (len*sz) len sz cs,h.push (.tip (len*sz)))
 else(.hslice h.next 0 len sz,h.push (.cells cs))
def lS(j sz g:Nat)(s x:IV):Option (IV×Heap):=
 match fX h sz x with
 |some (n,xs)=>
  if n=0 then(match s with
   | .nilslice=>some (.nilslice,h)
   | .vslice id e len z cs=>if z=sz then some (.vslice id e len z cs,h)else none
   | .hslice id off len z=>if z=sz then some (.hslice id off len z,h)else none
   |_=>none)
  else match s with
   | .nilslice=>if n*g<=140737488355328 then some (newRow h j n sz xs)else none
   | .vslice none 1 len z cs=>if z=sz/\(len+n)*g<=140737488355328 then some (newRow h j (len+n) sz (cs++xs))else none
   | .vslice (some id) e len z cs=>
    match h.get id with
    | .tip m=>if m=e/\z=sz/\(len+n)*g<=140737488355328 then some (.vslice (some id) (e+n*sz) (len+n) sz (cs++xs),h.set id (.tip (e+n*sz)))else none
    |_=>none
   | .hslice id off len z=>
    match h.get id with
    | .cells cs=>if off=0/\z=sz/\len*sz<=cs.length/\(len+n)*g<=140737488355328 then some (.hslice h.next 0 (len+n) sz,(h.set id .dead).push (.cells (cs.take (len*sz)++xs)))else none
    |_=>none
   |_=>none
 |none=>none
def mR:TypeDesc->Bool
 | .slice _=>true
 | .string=>true
 |_=>false
def gS:Option (Option TV×Heap):=
 match o.op with
 | .move x=>if c9R E f o=true then match bE (ev x)with
   |some (.hslice id off len sz)=>match h.get id with
    | .cells cs=>if 0<sz/\off+len*sz<=cs.length then some (some (.v (.vslice none 0 len sz ((cs.drop off).take (len*sz)))),h.set id .dead)else none
    |_=>none
   |_=>none
  else none
 | .alloc t=>match o.dst with
  |some d=>if E.bx f d=0 then none else(dD E.P t).map fun z=>(some (.v (.ptr h.next 0)),h.push (.cells (cellsOf z)))
  |none=>none
 | .box _ x=>match o.dst,bE (ev x)with
  |some d,some v=>if E.bx f d=0 then none else if rH v then some (some (.v (.ptr h.next 0)),h.push (.cells (cellsOf v)))else none
  |_,_=>none
 | .buildSlice t n parts=>match E.P.underlying t,o.dst with
  |some (.slice e),some d=>if E.A f d=0 then none else match gP E.P e,dD E.P e,jN (parts.toList.map fun(i,x)=>(i,ev x))with
   |some (sz+1),some z,some ps=>if n*(sz+1)<=16777216/\(cellsOf z).length=sz+1 then
    (oK (fun i=>some (i*(sz+1),sz+1)) (dY n (cellsOf z)) ps).map fun cs=>let r:=newRow h (E.A f d) n (sz+1) cs; (some (.v r.1),r.2)
    else none
   |_,_,_=>none
  |_,_=>none
 | .makeSlice t l c=>match E.P.underlying t,o.dst,W3 (ev l),W3 (ev c)with
  |some (.slice e),some d,some l,some c=>match gP E.P e,jI E.P e,dD E.P e with
   |some (sz+1),some bytes,some z=>
    if 0<=l/\l<=c/\c<=9223372036854775807/\bytes*c<=140737488355328/\(cellsOf z).length=sz+1 then
     let r:=newRow h (1-E.A f d) l.toNat (sz+1) (dY l.toNat (cellsOf z));some (some (.v r.1),r.2)
    else none
   |_,_,_=>none
  |_,_,_,_=>none
 | .makeMap _ r=>match r with
  |none=>some (some (.v (.map h.next)),h.push (.map []))
  |some _=>none
 | .convert s d x=>match E.P.underlying s,E.P.underlying d,o.dst,bE (ev x)with
  |some _,some (.slice e),some dst,some (.str b)=>match E.P.underlying e with
   |some (.int .u8)=>let r:=newRow h (E.A f dst) b.length 1 (b.map fun c=> .int .u8 c.toNat);some (some (.v r.1),r.2)
   |_=>none
  |_,_,_,_=>none
 | .store t a x=>match ev a,bE (ev x)with
  |some (.v (.ptr id off)),some v=>match h.get id with
   | .cells cs=>(Bo E.P t cs off v).map fun cs'=>(none,h.set id (.cells cs'))
   |_=>none
  |_,_=>none
 | .mapUpdate t m k x=>match E.P.underlying t,bE (ev m),bE (ev k),bE (ev x)with
  |some (.map kt _),some (.map id),some key,some v=>match E.P.underlying kt,h.get id with
   |some d,.map es=>if oL d key then(nT d key v es).map fun es'=>(none,h.set id (.map es'))else none
   |_,_=>none
  |_,_,_,_=>none
 | .mapEntry t m k=>match E.P.underlying t,bE (ev m),bE (ev k)with
  |some (.map kt et),some (.map id),some key=>match E.P.underlying kt,h.get id,dD E.P et with
   |some d,.map es,some z=>if oL d key then(a5V d key z es).map fun r=>(some (.v (.tuple [r.1,.int .i64 r.2.1])),h.set id (.map r.2.2))else none
   |_,_,_=>none
  |_,_,_=>none
 | .entryStore _ m s x=>match bE (ev m),bE (ev s),bE (ev x)with
  |some (.map id),some (.int _ n),some v=>match h.get id with
   | .map es=>if 0<=n/\n<es.length then some (none,h.set id (.map (Ba v n.toNat es)))else none
   |_=>none
  |_,_,_=>none
 | .call {callee:= .builtin .append,args,argTypes } =>
  match argTypes.toList,args.toList with
  | [t,u],[sx,xx]=>match bE (ev sx),bE (ev xx),E.P.underlying t,E.P.underlying u,o.dst with
   |some s,some x,some (.slice e),some du,some d=>match gP E.P e,jI E.P e,dD E.P e with
    |some (sz+1),some (bytes+1),some z=>if(cellsOf z).length=sz+1/\mR du=true then(lS h (E.A f d) (sz+1) (bytes+1) s x).map fun r=>(some (.v r.1),r.2)else none
    |_,_,_=>none
   |_,_,_,_,_=>none
  |_,_=>none
 | .call {callee:= .builtin .copy,args,argTypes } =>
  match argTypes.toList,args.toList with
  |t::_,[sx,xx]=>match bE (ev sx),bE (ev xx),E.P.underlying t with
   |some (.hslice id off len z),some x,some (.slice e)=>match gP E.P e,h.get id with
    |some (sz+1),.cells cs=>match fX h (sz+1) x with
     |some (n,xs)=>if z=sz+1/\off+len*z<=cs.length then
       some (some (.v (.int .i64 ((min n len:Nat):Int))),h.set id (.cells (spl cs off (xs.take (min n len*(sz+1))))))
      else none
     |none=>none
    |_,_=>none
   |_,_,_=>none
  |_,_=>none
 |_=>none
def c1O(sz:Nat)(x:IV):Option (Nat×Y14):=
 match x with
 | .nilslice=>some (0,[])
 | .vslice _ _ len z cs=>if z=sz then some (len,cs)else none
 | .str s=>if sz=1 then some (s.length,s.map fun b=> .int .u8 b.toNat)else none
 |_=>none
def wI(n g len sz:Nat)(cs:Y14):IV:=if g=0 then .vslice (some n) (len*sz) len sz cs else .hslice n 0 len sz
def rK(g len sz:Nat)(cs:Y14):IObj:=if g=0 then .tip (len*sz)else .cells cs
def H7(n:Nat):Option (Option TV×Option IObj):=
 match o.op with
 | .alloc t=>match o.dst with
  |some d=>if E.bx f d=0 then none else(dD E.P t).map fun z=>(some (.v (.ptr n 0)),some (.cells (cellsOf z)))
  |none=>none
 | .makeSlice t l c=>match E.P.underlying t,o.dst,W3 (ev l),W3 (ev c)with
  |some (.slice e),some d,some l,some c=>match gP E.P e,jI E.P e,dD E.P e with
   |some (sz+1),some bytes,some z=>
    if 0<=l/\l<=c/\c<=9223372036854775807/\bytes*c<=140737488355328/\(cellsOf z).length=sz+1/\(1-E.A f d=0->0<l.toNat)then
     some (some (.v (wI n (1-E.A f d) l.toNat (sz+1) (dY l.toNat (cellsOf z)))),some (rK (1-E.A f d) l.toNat (sz+1) (dY l.toNat (cellsOf z))))
    else none
   |_,_,_=>none
  |_,_,_,_=>none
 | .makeMap _ r=>match r with
  |none=>some (some (.v (.map n)),some (.map []))
  |some _=>none
 | .call {callee:= .builtin .append,args,argTypes } =>
  match argTypes.toList,args.toList with
  | [t,u],[sx,xx]=>match bE (ev sx),bE (ev xx),E.P.underlying t,E.P.underlying u,o.dst with
   |some .nilslice,some x,some (.slice e),some du,some d=>match gP E.P e,jI E.P e,dD E.P e with
    |some (sz+1),some (bytes+1),some z=>if(cellsOf z).length=sz+1/\mR du=true then match c1O (sz+1) x with
      |some (k,xs)=>if k=0 then some (some (.v .nilslice),none)
       else if k*(bytes+1)<=140737488355328 then some (some (.v (wI n (E.A f d) k (sz+1) xs)),some (rK (E.A f d) k (sz+1) xs))else none
      |none=>none
     else none
    |_,_,_=>none
   |_,_,_,_,_=>none
  |_,_=>none
 |_=>none
def kS:Y10:=match o.op with
 | .load _ a=>match ev a with
  |some (.v (.ptr id _))=>some id
  |_=>none
 | .convert _ _ x=>match bE (ev x)with
  |some (.hslice id _ _ _)=>some id
  |_=>none
 | .slice _ x _ _ _=>match ev x with
  |some (.v (.ptr id _))=>some id
  |_=>none
 | .lookup _ x _ _=>match bE (ev x)with
  |some (.map id)=>some id
  |_=>none
 | .call {callee:= .builtin .len,args,.. } =>match(args[0]?).bind fun x=>bE (ev x)with
  |some (.map id)=>some id
  |_=>none
 |_=>none
def dO:Option (FuncId×Y14):=
 match o.op with
 | .call {callee:= .value x,args,.. } =>match ev x,pB (args.toList.map ev)with
  |some (.v (.func (.func g) a b)),some xs=>some (g,a++xs++b)
  |_,_=>none
 |_=>none
end
def Fr.put(g:Fr)(d:Option Tmp)(v:Option TV):Fr:=
 match d with
 |some t=> {g with tm:=g.tm.set t v }
 |none=>g
def tC(s:Nat):TV->Bool
 | .l s' _=>s' !=s
 |_=>true
def Fr.box(g:Fr)(s:Nat)(cs:Y14):Fr:= {tm:=g.tm.filt (tC s),lv:=g.lv.set s (some cs) }
def Rg(E:Env)(f:FuncId)(o:Oper):Y10:=
 match o.op with
 | .alloc _=>match o.dst with
  |some d=>if E.bx f d=0 then some d else none
  |none=>none
 | .box _ _=>match o.dst with
  |some d=>if E.bx f d=0 then some d else none
  |none=>none
 |_=>none
def Fr.forget(g:Fr):List Nat->Fr
 | []=>g
 |s::r=>Fr.forget {tm:=g.tm.filt (tC s),lv:=g.lv.set s none } r
def Fr.start(E:Env)(f:FuncId)(ops:List Oper)(draw:Bool)(g:Fr):Fr:=if draw then g.forget (ops.filterMap (Rg E f))else g
structure Met where
 e:Nat:=0
 r:Nat:=0
 s:Nat:=0
 l:Nat:=0
 a:Nat:=0
 deriving Inhabited
inductive Cls where
 |p|l|s|r|e|b|a
 deriving DecidableEq,Inhabited
def rC(b:Bool):Cls:=match b with
 |true=> .p
 |false=> .e
def bit(i:Nat):Nat:=2^i
def Met.chk(m:Met):Cls->Nat
 | .p=>0
 | .b=>0
 | .l=>m.s
 | .s=>m.s|||m.l
 | .r=>m.e
 | .e=>m.e|||m.r|||m.a
 | .a=>m.e
def Met.add(m:Met)(c:Cls)(i:Nat):Met:=
 match c with
 | .p=>m
 | .b=>m
 | .l=> {m with l:=m.l|||bit i }
 | .s=> {m with s:=m.s|||bit i }
 | .r=> {m with r:=m.r|||bit i }
 | .e=> {m with e:=m.e|||bit i }
 | .a=> {m with a:=m.a|||bit i }
def dK(ops:List Oper)(g:Nat->Option TV)(o:Oper):Option Bool:=
 match o.guard with
 |none=>some true
 |some (j,b)=>match(ops[j]?).bind (·.dst)with
  |some d=>match g d with
   |some (.v (.bool x))=>some (x==b)
   |some .u=>some false
   |_=>none
  |none=>none
def kJ(m b:Nat):Bool:=(m&&&b)==m
structure Ef where
 c:Cls
 v:Option TV
 loc:Option (Nat×Y14)
 box:Bool
 h:Heap
mutual
def Po:IV->IV->Bool
 | .bool a,.bool b=>a==b
 | .int k n,.int k' n'=>decide (k=k') &&n==n'
 | .str a,.str b=>a==b
 | .nilptr,.nilptr=>true
 | .ptr a b,.ptr c d=>Nat.beq a c&&Nat.beq b d
 | .nilslice,.nilslice=>true
 | .hslice a b c d,.hslice a' b' c' d'=>Nat.beq a a'&& (Nat.beq b b'&& (Nat.beq c c'&&Nat.beq d d'))
 | .vslice i e n z cs,.vslice i' e' n' z' cs'=>decide (i=i') && (Nat.beq e e'&& (Nat.beq n n'&& (Nat.beq z z'&&pI cs cs')))
 | .nilmap,.nilmap=>true
 | .map a,.map b=>Nat.beq a b
 | .nilfunc,.nilfunc=>true
 | .nilIface,.nilIface=>true
 | .agg a,.agg b=>pI a b
 | .tuple a,.tuple b=>pI a b
 | .vref a o,.vref b o'=>Nat.beq o o'&&pI a b
 | .func f a c,.func g b d=>decide (f=g) && (pI a b&&pI c d)
 | .iface t a,.iface u b=>decide (t=u) &&Po a b
 |_,_=>false
def pI:Y14->Y14->Bool
 | [],[]=>true
 |a::r,b::q=>Po a b&&pI r q
 |_,_=>false
end
def c1T:TV->TV->Bool
 | .v a,.v b=>Po a b
 |_,_=>false
abbrev Pd:=List (Nat×(Heap->Bool))
def Su(m:Met)(g:Pd)(b:Nat)(e:Ef):Bool:=match e.c with
 | .e=>kJ (m.e|||m.a) b&&g.all (fun p=>b.testBit p.1||p.2 e.h)
 |_=>false
section
variable (E:Env) (f:FuncId) (cf:FuncId->Y14->Heap->Option (IV×Heap)) (ops:List Oper) (draw:Bool) (bef:Nat->Nat)
def eB(o:Oper)(ev:Operand->Option TV)(lv:Nat->Option (Y14))(h:Heap):Option Ef:=
 match eH E f o ev with
 |some (v,bx)=>match bx,o.dst with
  |some cs,some d=>if draw then(match lv d with
   |none=>some ⟨.b,some v,some (d,cs),false,h⟩
   |some _=>none)else some ⟨.p,some v,some (d,cs),true,h⟩
  |none,_=>some ⟨.p,some v,none,false,h⟩
  |_,_=>none
 |none=>
 match gB E o ev lv with
 |some v=>some ⟨.l,some v,none,false,h⟩
 |none=>
 match iG E o ev lv with
 |some (s,cs)=>some ⟨.s,none,some (s,cs),false,h⟩
 |none=>
 match dR E o ev h with
 |some v=>some ⟨.r,some v,none,false,h⟩
 |none=>
 match gS E f o ev h with
 |some (v,h')=>some ⟨.e,v,none,false,h'⟩
 |none=>
 match dO o ev with
 |some (g,xs)=>match cf g xs h with
  |some (v,h')=>some ⟨rC (E.iso g),some (.v v),none,false,h'⟩
  |none=>none
 |none=>none
def vU(o:Oper)(g:Nat->Option TV)(lv:Nat->Option (Y14))(h:Heap):Option Ef:=
 match dK ops g o with
 |none=>none
 |some false=>some ⟨.p,some .u,none,false,h⟩
 |some true=>eB E f cf draw o (aX E g) lv h
def dJ(rs:Y10)(o:Oper)(g:Nat->Option TV)(lv:Nat->Option (Y14))(h:Heap):Option Ef:=
 match rs with
 |none=>vU E f cf ops draw o g lv h
 |some n=>match dK ops g o with
  |none=>none
  |some false=>some ⟨.p,some .u,none,false,h⟩
  |some true=>match H7 E f o (aX E g) n with
   |some (v,none)=>some ⟨.p,v,none,false,h⟩
   |some (v,some x)=>match h.get n with
    | .free=>some ⟨.a,v,none,false,h.set n x⟩
    |_=>none
   |none=>none
def Sb:Nat->List Nat->Nat->Y10
 |_,[],_=>none
 |k,j::r,i=>match Nat.beq i j with
  |true=>some k
  |false=>Sb (k+1) r i
def Fo(g:List Nat)(rs:Nat->Y10)(m:Met)(b:Nat)(id:Y10)(c:Cls):Bool:=match c with
 | .r=>g.all fun j=>b.testBit j|| (!(m.a.testBit j)|| (match rs j,id with
  |some n,some k=>!(Nat.beq n k)
  |_,_=>true))
 |_=>true
def okB(g:List Nat)(rs:Nat->Y10)(m:Met)(j:Pd)(b:Nat)(id:Y10)(e:Ef):Bool:=(kJ (m.chk e.c) b||Su m j b e) &&Fo g rs m b id e.c
def Fr.app(g:Fr)(d:Option Tmp)(e:Ef):Fr:=
 match e.loc with
 |some (s,cs)=>if e.box then(g.box s cs).put d e.v else {g.put d e.v with lv:=g.lv.set s (some cs) }
 |none=>g.put d e.v
def nN(o:Oper)(ev:Operand->Option TV)(e:Ef)(i:Nat)(g:Pd):Pd:=match e.c with
 | .r=>(i,fun h2=>match dR E o ev h2,e.v with
  |some v2,some v=>c1T v2 v
  |_,_=>false)::g
 |_=>g
def nP(g:List Nat)(rs:Nat->Y10):List (Oper×Nat)->Met->Pd->Fr->Heap->Option (Fr×Heap)
 | [],_,_,fr,h=>some (fr,h)
 | (o,i)::r,m,pd,fr,h=>match dJ E f cf ops draw (rs i) o fr.tm.get fr.lv.get h with
  |some e=>if !draw||okB g rs m pd (bef i) (kS o (aX E fr.tm.get)) e then nP g rs r (m.add e.c i) (nN E o (aX E fr.tm.get) e i pd) (fr.app o.dst e) e.h else none
  |none=>none
end
inductive Ex where
 |normal
 |exit (id:Nat)
 |ret
 deriving DecidableEq,Inhabited
def kE(g:Fr->Heap->Option (Ex×Fr×Heap)):Nat->Fr->Heap->Option (Ex×Fr×Heap)
 |0,_,_=>none
 |n+1,fr,h=>match g fr h with
  |some (.normal,fr',h')=>kE g n fr' h'
  |r=>r
def J7(ops:Array Oper):Nat->Nat:=fun i=>(Region.before ops).getD i 0
def rW(ops:List Oper)(p q:Oper×Nat):Bool:=Nat.blt p.2 q.2|| (!Nat.beq p.2 q.2&& (p.1.after.toList.all fun e=>!Nat.beq e.on q.2) &&Oper.apart ops.toArray p.1 q.1)
def J4(ops:List Oper):List (Oper×Nat)->Bool
 | []=>true
 |p::r=>r.all (rW ops p) &&J4 ops r
def E7(ops:List Oper)(l:List Nat):List (Oper×Nat):=l.filterMap fun i=>ops[i]?.map fun o=>(o,i)
def B5(l:List Nat)(draw:Bool)(ops:List Oper):List (Oper×Nat):=match draw,l with
 |true,i::r=>match Nat.ble (i::r).length ops.length&& (List.range ops.length).all (fun j=>(i::r).contains j) &&J4 ops (E7 ops (i::r))with
  |true=>E7 ops (i::r)
  |false=>ops.zipIdx
 |_,_=>ops.zipIdx
section
variable (E:Env) (f:FuncId) (cf:FuncId->Y14->Heap->Option (IV×Heap)) (n:Nat)
def dS:Code->Fr->Heap->Option (Ex×Fr×Heap)
 | .skip,fr,h=>some (.normal,fr,h)
 | .region id ops draw,fr,h=>match nP E f cf ops.toList draw (J7 ops) (E.an f id) (Sb h.next (E.an f id)) (B5 (E.od f id) draw ops.toList) {} [] (fr.start E f ops.toList draw) (h.reserve (E.an f id).length)with
  |some (fr',h')=>some (.normal,fr',h')
  |none=>none
 | .seq a b,fr,h=>match dS a fr h with
  |some (.normal,fr',h')=>dS b fr' h'
  |r=>r
 | .cond c a b,fr,h=>match aX E fr.tm.get c with
  |some (.v (.bool true))=>dS a fr h
  |some (.v (.bool false))=>dS b fr h
  |_=>none
 | .block id c,fr,h=>match dS c fr h with
  |some (.exit id',fr',h')=>if id'=id then some (.normal,fr',h')else some (.exit id',fr',h')
  |r=>r
 | .loop c,fr,h=>kE (dS c) n fr h
 | .exit id,fr,h=>some (.exit id,fr,h)
 | .scope c,fr,h=>dS c fr h
 | .ret,fr,h=>some (.ret,fr,h)
 |_,_,_=>none
end
def yG(P:Program)(g:Fr)(h:Heap):ResultVar->Option IV
 | .tmp t=>bE (g.tm.get t)
 | .cell a t=>match g.tm.get a with
  |some (.l s off)=>match g.lv.get s with
   |some cs=>fJ P t cs off
   |none=>none
  |some (.v (.ptr id off))=>match h.get id with
   | .cells cs=>fJ P t cs off
   |_=>none
  |_=>none
def iY(P:Program)(g:Fr)(h:Heap):List ResultVar->Option (Y14)
 | []=>some []
 |r::rs=>match yG P g h r,iY P g h rs with
  |some v,some vs=>some (v::vs)
  |_,_=>none
def kG:Y14->IV
 | [v]=>v
 |vs=> .tuple vs
def lM:Y14->Nat->PT TV->PT TV
 | [],_,t=>t
 |v::r,i,t=>lM r (i+1) (t.set i (some (.v v)))
def sW(h:Heap):IV->IV×Heap
 | .hslice id off len sz=>match h.get id with
  | .cells cs=>if 0<sz/\off+len*sz<=cs.length then(.vslice none 0 len sz ((cs.drop off).take (len*sz)),h.set id .dead)else(.hslice id off len sz,h)
  |_=>(.hslice id off len sz,h)
 |v=>(v,h)
def vV(g:Heap->IV->IV×Heap)(h:Heap):Y14->Y14×Heap
 | []=>([],h)
 |v::r=>
  let x:=g h v
  let y:=vV g x.2 r
  (x.1::y.1,y.2)
def M9(h:Heap):IV->IV×Heap
 | .agg cs=>let x:=vV sW h cs; (.agg x.1,x.2)
 |v=>sW h v
def d6A(h:Heap):IV->IV×Heap
 | .tuple vs=>let x:=vV M9 h vs; (.tuple x.1,x.2)
 |v=>M9 h v
def pX(h:Heap):IV->IV
 | .nilslice=> .vslice none 0 0 1 []
 | .vslice none _ len sz cs=> .vslice none 0 len sz cs
 | .hslice id off len sz=>match h.get id with
  | .cells cs=>if 0<sz/\off+len*sz<=cs.length then .vslice none 0 len sz ((cs.drop off).take (len*sz))else .hslice id off len sz
  |_=> .hslice id off len sz
 |v=>v
def xP(g:Heap):IV->Heap
 | .hslice id _ _ _=>match g.get id with
  | .cells _=>g.set id .dead
  |_=>g
 |_=>g
def a8A(g:Heap):Y14->Heap
 | []=>g
 |v::r=>a8A (xP g v) r
def Ph(h:Heap)(v:IV):IV×Heap:=match M9 h v with
 | (.vslice none e len sz cs,h')=>(.vslice none e len sz (cs.map (pX h')),a8A h' cs)
 |y=>y
def B4(E:Env)(f:FuncId)(ts:List TypeId)(vs:Y14):Y14:=match E.nr f with
 |true=>iX E.P ts vs
 |false=>vs
def kB(E:Env)(f:FuncId)(v:IV)(h:Heap):IV×Heap:=if E.fz f then d6A h v else(v,h)
def jG(E:Env)(f:FuncId)(cf:FuncId->Y14->Heap->Option (IV×Heap))(n:Nat)(rs:List ResultVar)(c:Code)(args:Y14)(h:Heap):Option (Y14×Heap):=
 match dS E f cf n c ⟨lM args 0 .nil,.nil⟩ h with
 |some (.normal,fr,h')=>(iY E.P fr h' rs).map (·,h')
 |some (.ret,fr,h')=>(iY E.P fr h' rs).map (·,h')
 |_=>none
def N0(E:Env)(f:FuncId)(vs:Y14)(h:Heap):Y14:=if E.fz f then(vV (if E.fd f=true then Ph else M9) h vs).1 else vs
def Ds(E:Env)(f:FuncId)(ts:List TypeId)(vs:Y14)(h:Heap):Option IV:=
 let ws:=iX E.P ts (N0 E f vs h)
 if aP ws then some (kG ws)else none
def eJ(E:Env):Nat->FuncId->Y14->Heap->Option (IV×Heap)
 |0,_,_,_=>none
 |n+1,f,args,h=>
  match E.P.funcs[f]? with
  |some fn=>match fn.body with
   |some c=>match E.iso f with
    |false=>match jG E f (eJ E n) n fn.results.toList c (B4 E f fn.params.toList args) h with
     |some (vs,h')=>some (kB E f (kG (B4 E f fn.resultTypes.toList vs)) h')
     |none=>none
    |true=>if aP (iX E.P fn.params.toList args)then match jG E f (eJ E n) n fn.results.toList c (iX E.P fn.params.toList args) Heap.empty with
     |some (vs,h')=>(Ds E f fn.resultTypes.toList vs h').map (·,h)
     |none=>none
     else none
   |none=>none
  |none=>none
theorem jU(E:Env)(n:Nat)(f:FuncId)(args:Y14)(h:Heap):eJ E (n+1) f args h=
 match E.P.funcs[f]? with
 |some fn=>match fn.body with
  |some c=>match E.iso f with
   |false=>match jG E f (eJ E n) n fn.results.toList c (B4 E f fn.params.toList args) h with
    |some (vs,h')=>some (kB E f (kG (B4 E f fn.resultTypes.toList vs)) h')
    |none=>none
   |true=>if aP (iX E.P fn.params.toList args)then match jG E f (eJ E n) n fn.results.toList c (iX E.P fn.params.toList args) Heap.empty with
    |some (vs,h')=>(Ds E f fn.resultTypes.toList vs h').map (·,h)
    |none=>none
    else none
  |none=>none
 |none=>none:=rfl
theorem Nl{n:Nat}{x:TV}{s g:Nat}(h:mX n x=some (.l s g)): ∃o,x= .l s o:=by
 unfold mX at h;split at h<;>simp at h
 exact⟨_,by rw [h.1]⟩
theorem b0D{E:Env}{f:FuncId}{o:Oper}{ev:Operand->Option TV}{s g:Nat}(h:eH E f o ev=some (.l s g,none)): ∃x j,ev x=some (.l s j):=by
 unfold eH at h;split at h
 case h_1 x hx=>
  split at h
  ·cases h
  ·obtain⟨y,h1,h2⟩:=AE.1 h;simp at h2;subst h2;exact⟨_,_,h1⟩
 case h_2 x hx=>obtain⟨y,h1,h2⟩:=AE.1 h;simp at h2;subst h2;exact⟨_,_,h1⟩
 case h_3 c a b hx=>
  split at h
  ·obtain⟨y,h1,h2⟩:=AE.1 h;simp at h2;subst h2;exact⟨_,_,h1⟩
  ·obtain⟨y,h1,h2⟩:=AE.1 h;simp at h2;subst h2;exact⟨_,_,h1⟩
  ·cases h
 all_goals (repeat' split at h)
 all_goals first
  | (cases h;done)
  | (exfalso;obtain⟨y,h1,h2⟩:=AE.1 h;simp at h2;done)
  | (simp at h;done)
  | (obtain⟨y,h1,h2⟩:=AE.1 h;simp only [BT,and_true]at h2;subst h2;obtain⟨j,rfl⟩:=Nl h1;exact⟨_,_,by assumption⟩)
  | (simp only [AB,BT,TV.l.injEq,and_true]at h;obtain⟨rfl,rfl⟩:=h;exact⟨_,_,by assumption⟩)
theorem b0C{E:Env}{f:FuncId}{o:Oper}{ev:Operand->Option TV}{s g d:Nat}{cs:Y14}(h:eH E f o ev=some (.l s g,some cs))(hd:o.dst=some d):s=d:=by
 unfold eH at h
 repeat' split at h
 all_goals first
  | (cases h;done)
  | (simp at h;done)
  | (simp_all;done)
  | (obtain⟨y,h1,h2⟩:=AE.1 h;simp at h2;done)
  | (obtain⟨y,h1,h2⟩:=AE.1 h;simp_all;done)
theorem b0K{E:Env}{o:Oper}{ev:Operand->Option TV}{h:Heap}{tv:TV}(g:dR E o ev h=some tv): ∃x,tv= .v x:=by
 unfold dR at g
 repeat' split at g
 all_goals first
  | (cases g;done)
  | (obtain⟨y,_,h2⟩:=AE.1 g;exact⟨_,h2.symm⟩)
  | (simp only [AB]at g;exact⟨_,g.symm⟩)
theorem c7W{E:Env}{f:FuncId}{o:Oper}{ev:Operand->Option TV}{h:Heap}{q:Option TV×Heap}{tv:TV}(g:gS E f o ev h=some q)(j:q.1=some tv): ∃x,tv= .v x:=by
 unfold gS at g
 repeat' split at g
 all_goals first
  | (cases g;done)
  | (obtain⟨y,_,h2⟩:=AE.1 g;subst h2;simp at j;done)
  | (obtain⟨y,_,h2⟩:=AE.1 g;subst h2;simp only [AB]at j;exact⟨_,j.symm⟩)
  | (simp only [AB]at g;subst g;simp only [AB]at j;exact⟨_,j.symm⟩)
  | (simp only [AB]at g;subst g;simp at j;done)
theorem c4K{E:Env}{f:FuncId}{o:Oper}{ev:Operand->Option TV}{n:Nat}{q:Option TV×Option IObj}{tv:TV}(g:H7 E f o ev n=some q)(j:q.1=some tv): ∃x,tv= .v x:=by
 unfold H7 at g
 repeat' split at g
 all_goals first
  | (cases g;done)
  | (obtain⟨y,_,h2⟩:=AE.1 g;subst h2;simp only [AB]at j;exact⟨_,j.symm⟩)
  | (simp only [AB]at g;subst g;simp only [AB]at j;exact⟨_,j.symm⟩)
theorem Kf{g len sz:Nat}{cs:Y14} :rK g len sz cs≠ .free:=by
 unfold rK
 split<;>simp
theorem a3H{E:Env}{f:FuncId}{o:Oper}{ev:Operand->Option TV}{n:Nat}{v:Option TV}{x:IObj}(g:H7 E f o ev n=some (v,some x)):x≠ .free:=by
 unfold H7 at g
 repeat' split at g
 all_goals first
  | (cases g;done)
  | (obtain⟨y,_,h2⟩:=AE.1 g;simp only [BT,AB]at h2;rw [<-h2.2];simp;done)
  | (simp only [AB,BT]at g;rw [<-g.2];first|exact Kf|simp)
  | (simp at g;done)
structure Meta where
 nid:Nat
 loc:Nat->Y10
 tip:Nat->Nat
 cur:Nat->Nat×Nat
 im:Nat->Nat->Option Value
 bsz:Nat->Y10
inductive VR(M:Meta):IV->Value->Prop where
 |bool (b:Bool):VR M (.bool b) (.bool b)
 |int (k:IntKind) (n:Int):VR M (.int k n) (.int k n)
 |str (s:ByteArray):VR M (.str s.data.toList) (.string s)
 |nilptr:VR M .nilptr (.pointer none)
 |ptr {id off b:Nat} (hl:M.loc id=some b):VR M (.ptr id off) (.pointer (some ⟨b,off,none⟩))
 |vref {cs:Y14} {off b base:Nat} (rv:Nat->Value) (him: ∀i,i<cs.length->M.im b (base+i)=some (rv i))
  (hv: ∀(i:Nat)(h:i<cs.length),VR M cs[i] (rv i)) (hc: ∀(i:Nat)(h:i<cs.length),isCell cs[i]=true):VR M (.vref cs off) (.pointer (some ⟨b,base+off,none⟩))
 |nilslice:VR M .nilslice (.slice none 0 0)
 |vnil {sz:Nat} :VR M (.vslice none 0 0 sz []) (.slice none 0 0)
 |hslice {id off len sz cap b:Nat} (a:Addr) (hl:M.loc id=some b) (ha:cap=0\/ (a=⟨b,off,none⟩/\∃n,M.bsz b=some n/\off+cap*sz<=n)) (hlen:len<=cap):
  VR M (.hslice id off len sz) (.slice (some a) len cap)
 |vslice {id:Y10} {e len sz cap:Nat} {cs:Y14} (a:Addr) (rv:Nat->Value) (hn:cs.length=len*sz) (hlen:len<=cap)
  (ha:cap=0\/ (a.spot=none/\∃n,M.bsz a.block=some n/\a.off+cap*sz<=n))
  (him: ∀i,i<cs.length->M.im a.block (a.off+i)=some (rv i))
  (hv: ∀(i:Nat)(h:i<cs.length),VR M cs[i] (rv i)) (hc: ∀(i:Nat)(h:i<cs.length),isCell cs[i]=true)
  (ht: ∀i,id=some i->i<M.nid/\cs.length<=e/\e<=M.tip i/\(e=M.tip i->cap=0\/M.cur i=(a.block,a.off+cs.length)))
  (hf:id=none->e=0\/ (e=1/\cap=len/\0<sz)):
  VR M (.vslice id e len sz cs) (.slice (some a) len cap)
 |nilmap:VR M .nilmap (.map none)
 |map {id b:Nat} (hl:M.loc id=some b):VR M (.map id) (.map (some b))
 |func {fn:Fn} {xs ys:Y14} (rx ry:Array Value) (hx:xs.length=rx.size) (hy:ys.length=ry.size)
  (vx: ∀(i:Nat)(h:i<xs.length)(h':i<rx.size),VR M xs[i] rx[i]) (vy: ∀(i:Nat)(h:i<ys.length)(h':i<ry.size),VR M ys[i] ry[i]):VR M (.func fn xs ys) (.func fn rx ry)
 |nilfunc:VR M .nilfunc .nilFunc
 |iface {t:TypeId} {x:IV} {v:Value} (h:VR M x v):VR M (.iface t x) (.iface t v)
 |nilIface:VR M .nilIface .nilIface
 |agg {cs:Y14} (rc:Array Value) (hn:cs.length=rc.size) (hv: ∀(i:Nat)(h:i<cs.length)(h':i<rc.size),VR M cs[i] rc[i])
  (hc: ∀(i:Nat)(h:i<cs.length),isCell cs[i]=true):VR M (.agg cs) (.agg rc)
 |tuple {vs:Y14} (rc:Array Value) (hn:vs.length=rc.size) (hv: ∀(i:Nat)(h:i<vs.length)(h':i<rc.size),VR M vs[i] rc[i]):VR M (.tuple vs) (.tuple rc)
structure Ext(M M':Meta):Prop where
 nid:M.nid<=M'.nid
 loc: ∀id b,M.loc id=some b->M'.loc id=some b
 im: ∀b o v,M.im b o=some v->M'.im b o=some v
 bsz: ∀b n,M.bsz b=some n->M'.bsz b=some n
 tip: ∀i,i<M.nid->M.tip i<=M'.tip i
 cur: ∀i,i<M.nid->M.tip i=M'.tip i->M.cur i=M'.cur i
theorem Ext.refl(M:Meta):Ext M M:=⟨AG _,fun _ _ h=>h,fun _ _ _ h=>h,fun _ _ h=>h,fun _ _=>AG _,fun _ _ _=>rfl⟩
theorem Ext.trans{A B C:Meta}(h:Ext A B)(k:Ext B C):Ext A C where
 nid:=CW h.nid k.nid
 loc:=fun id b e=>k.loc _ _ (h.loc _ _ e)
 im:=fun b o v e=>k.im _ _ _ (h.im _ _ _ e)
 bsz:=fun b n e=>k.bsz _ _ (h.bsz _ _ e)
 tip:=fun i g=>CW (h.tip i g) (k.tip i (BS g h.nid))
 cur:=fun i g e=>by
  have h1:=h.tip i g;have h2:=k.tip i (BS g h.nid);exact(h.cur i g JF).trans (k.cur i (BS g h.nid) JF)
theorem VR.mono{M M':Meta}(l:Ext M M'){x:IV}{r:Value}(h:VR M x r):VR M' x r:=by
 induction h with
 |bool b=>exact .bool b
 |int k n=>exact .int k n
 |str s=>exact .str s
 |nilptr=>exact .nilptr
 |ptr hl=>exact .ptr (l.loc _ _ hl)
 |vref rv him hv hc ih=>exact .vref rv (fun i q=>l.im _ _ _ (him i q)) ih hc
 |nilslice=>exact .nilslice
 |vnil=>exact .vnil
 |hslice a hl g hlen=>
  refine .hslice a (l.loc _ _ hl) ?_ hlen;rcases g with g| ⟨g,n,m,p⟩
  ·exact .inl g
  ·exact .inr ⟨g,n,l.bsz _ _ m,p⟩
 |vslice a rv m hlen g him hv hc ht hf ih=>
  refine .vslice a rv m hlen ?_ (fun i q=>l.im _ _ _ (him i q)) ih hc ?_ hf
  ·rcases g with g| ⟨g,n,m,p⟩
   ·exact .inl g
   ·exact .inr ⟨g,n,l.bsz _ _ m,p⟩
  ·intro i q;obtain⟨h1,h0,h2,h3⟩:=ht i q;have:=l.tip i h1;refine⟨BS h1 l.nid,h0,CW h2 this,fun L=>?_⟩;have j:=h3 JF;rcases j with j|j
   ·exact .inl j
   ·exact .inr ((l.cur i h1 JF).symm.trans j)
 |nilmap=>exact .nilmap
 |map hl=>exact .map (l.loc _ _ hl)
 |func G K A D O R y z=>exact .func G K A D y z
 |nilfunc=>exact .nilfunc
 |iface h ih=>exact .iface ih
 |nilIface=>exact .nilIface
 |agg rc m hv hc ih=>exact .agg rc m ih hc
 |tuple rc m hv ih=>exact .tuple rc m ih
theorem VR.isCell{M:Meta}{x:IV}{r:Value}(h:VR M x r):isCell x=r.oneCell':=by
 cases h<;>rfl
def cO(M:Meta)(xs:Y14)(rs:List Value):Prop:=xs.length=rs.length/\∀(i:Nat)(h:i<xs.length)(h':i<rs.length),VR M xs[i] rs[i]
def eG(M:Meta)(xs:Y14)(rs:List Value):Prop:=cO M xs rs/\∀(i:Nat)(h:i<xs.length),isCell xs[i]=true
theorem cO.mono{M M':Meta}(g:Ext M M'){xs:Y14}{rs:List Value}(h:cO M xs rs):cO M' xs rs:=⟨h.1,fun i a b=>(h.2 i a b).mono g⟩
theorem eG.mono{M M':Meta}(g:Ext M M'){xs:Y14}{rs:List Value}(h:eG M xs rs):eG M' xs rs:=⟨h.1.mono g,h.2⟩
theorem cO.nil(M:Meta):cO M [] []:=⟨rfl,fun i h=>absurd h JH⟩
theorem eG.nil(M:Meta):eG M [] []:=⟨cO.nil M,fun i h=>absurd h JH⟩
theorem cO.cons{M:Meta}{x:IV}{r:Value}{xs:Y14}{rs:List Value}(h:VR M x r)(g:cO M xs rs):cO M (x::xs) (r::rs):=by
 refine⟨by simp [g.1],fun i a b=>?_⟩
 cases i with
 |zero=>exact h
 |succ i=>exact g.2 i (by simpa using a) (by simpa using b)
theorem eG.cons{M:Meta}{x:IV}{r:Value}{xs:Y14}{rs:List Value}(h:VR M x r)(j:Pv.isCell x=true)(g:eG M xs rs):eG M (x::xs) (r::rs):=by
 refine⟨g.1.cons h,fun i a=>?_⟩
 cases i with
 |zero=>exact j
 |succ i=>exact g.2 i (by simpa using a)
theorem cO.uncons{M:Meta}{x:IV}{xs:Y14}{rs:List Value}(h:cO M (x::xs) rs): ∃r rs',rs=r::rs'/\VR M x r/\cO M xs rs':=by
 obtain⟨g,j⟩:=h
 cases rs with
 |nil=>simp at g
 |cons r rs'=>
  refine⟨r,rs',rfl,j 0 JH JH,by simpa using g,fun i a b=>?_⟩;exact j (i+1) (by simpa using a) (by simpa using b)
theorem cO.get{M:Meta}{xs:Y14}{rs:List Value}(h:cO M xs rs){i:Nat}{x:IV}(l:xs[i]?=some x): ∃r,rs[i]?=some r/\VR M x r:=by
 obtain⟨j,rfl⟩:=AP.1 l;have g:i<rs.length:=h.1▸j;exact⟨rs[i],AA g,h.2 i j g⟩
theorem eG.get{M:Meta}{xs:Y14}{rs:List Value}(h:eG M xs rs){i:Nat}{x:IV}(g:xs[i]?=some x): ∃r,rs[i]?=some r/\VR M x r:=h.1.get g
theorem cO.append{M:Meta}{xs j:Y14}{rs g:List Value}(h:cO M xs rs)(k:cO M j g):cO M (xs++j) (rs++g):=by
 induction xs generalizing rs with
 |nil=>cases rs with
  |nil=>simpa using k
  |cons r rs=>simp [cO]at h
 |cons x xs ih=>
  obtain⟨r,l,rfl,h1,h2⟩:=h.uncons;exact(ih h2).cons h1
theorem eG.append{M:Meta}{xs j:Y14}{rs g:List Value}(h:eG M xs rs)(k:eG M j g):eG M (xs++j) (rs++g):=by
 refine⟨h.1.append k.1,fun i a=>?_⟩;rw [IR];split
 ·exact h.2 _ _
 ·exact k.2 _ _
theorem cO.drop{M:Meta}{xs:Y14}{rs:List Value}(h:cO M xs rs)(n:Nat):cO M (xs.drop n) (rs.drop n):=by
 refine⟨by simp [h.1],fun i a b=>?_⟩;simp only [DM]at a b;simp only [FX];exact h.2 _ _ _
theorem cO.take{M:Meta}{xs:Y14}{rs:List Value}(h:cO M xs rs)(n:Nat):cO M (xs.take n) (rs.take n):=by
 refine⟨by simp [h.1],fun i a b=>?_⟩;simp only [AR]at a b;simp only [EZ];exact h.2 _ _ _
theorem eG.drop{M:Meta}{xs:Y14}{rs:List Value}(h:eG M xs rs)(n:Nat):eG M (xs.drop n) (rs.drop n):=
 ⟨h.1.drop n,fun i a=>by simp only [DM]at a;simp only [FX];exact h.2 _ _⟩
theorem eG.take{M:Meta}{xs:Y14}{rs:List Value}(h:eG M xs rs)(n:Nat):eG M (xs.take n) (rs.take n):=
 ⟨h.1.take n,fun i a=>by simp only [AR]at a;simp only [EZ];exact h.2 _ _⟩
theorem eG.len{M:Meta}{xs:Y14}{rs:List Value}(h:eG M xs rs):xs.length=rs.length:=h.1.1
theorem eG.one{M:Meta}{xs:Y14}{rs:List Value}(h:eG M xs rs): ∀v∈rs,v.oneCell'=true:=by
 intro v l;obtain⟨i,j,rfl⟩:=GS l;have g:i<xs.length:=h.len▸j;rw [<- (h.1.2 i g j).isCell];exact h.2 i g
theorem C4{M:Meta}{cs:Y14}{r:Value}(h:VR M (.agg cs) r): ∃rc:List Value,r= .agg rc.toArray/\eG M cs rc:=by
 cases h with
 |agg rc hn hv hc=>exact⟨rc.toList,JH,⟨by simpa using hn,fun i a b=>by simpa using hv i a (by simpa using b)⟩,hc⟩
theorem iJ{M:Meta}{cs:Y14}{rc:List Value}(h:eG M cs rc):VR M (.agg cs) (.agg rc.toArray):=
 .agg rc.toArray (by simpa using h.len) (fun i a b=>by simpa using h.1.2 i a (by simpa using b)) h.2
theorem Kz{M:Meta}{cs:Y14}{r:Value}(h:VR M (.tuple cs) r): ∃rc:List Value,r= .tuple rc.toArray/\cO M cs rc:=by
 cases h with
 |tuple rc hn hv=>exact⟨rc.toList,JH,by simpa using hn,fun i a b=>by simpa using hv i a (by simpa using b)⟩
theorem dW{M:Meta}{cs:Y14}{rc:List Value}(h:cO M cs rc):VR M (.tuple cs) (.tuple rc.toArray):=
 .tuple rc.toArray (by simpa using h.1) (fun i a b=>by simpa using h.2 i a (by simpa using b))
theorem c2T{M:Meta}{fn:Fn}{xs l:Y14}{r:Value}(h:VR M (.func fn xs l) r): ∃g j:List Value,r= .func fn g.toArray j.toArray/\cO M xs g/\cO M l j:=by
 cases h with
 |func g j m p q y=>exact⟨g.toList,j.toList,JH,⟨by simpa using m,fun i a b=>by simpa using q i a (by simpa using b)⟩,⟨by simpa using p,fun i a b=>by simpa using y i a (by simpa using b)⟩⟩
theorem T8{M:Meta}{fn:Fn}{xs l:Y14}(g:cO M xs V)(j:cO M l W):VR M (.func fn xs l) (.func fn V.toArray W.toArray):=
 .func V.toArray W.toArray (by simpa using g.1) (by simpa using j.1) (fun i a b=>by simpa using g.2 i a (by simpa using b)) (fun i a b=>by simpa using j.2 i a (by simpa using b))
theorem b2N{M:Meta}(s:Y11):VR M (.str s) (.string ⟨s.toArray⟩):=VR.str ⟨s.toArray⟩
theorem kI{M:Meta}{x:IV}{r:Value}(h:VR M x r)(g:rH x=true):eG M (cellsOf x) r.cells.toList:=by
 cases h with
 | @agg cs rc hn hv hc=>exact(show eG M cs rc.toList from⟨⟨by simpa using hn,fun i a b=>by simpa using hv i a (by simpa using b)⟩,hc⟩)
 |tuple=>simp [rH]at g
 |_=>exact eG.cons (by first|exact .bool _|exact .int _ _|exact .str _|exact .nilptr|exact .ptr ‹_› |exact .nilslice|exact .vnil|exact .nilmap|exact .map ‹_› |exact .nilfunc|exact .nilIface|exact .iface ‹_› | (constructor<;>assumption)) rfl (eG.nil M)
theorem A9{M:Meta}{v:Value}{x:IV}(h:Fg v=some x):VR M x v/\isCell x=true:=by
 unfold Fg at h;split at h<;>simp at h<;>subst h
 ·exact⟨.bool _,rfl⟩
 ·exact⟨.int _ _,rfl⟩
 ·exact⟨.str _,rfl⟩
 ·exact⟨.nilptr,rfl⟩
 ·exact⟨.nilslice,rfl⟩
 ·exact⟨.nilmap,rfl⟩
 ·exact⟨.nilfunc,rfl⟩
 ·exact⟨.nilIface,rfl⟩
theorem E3{M:Meta} : ∀{l:List Value}{xs:Y14},sZ l=some xs->eG M xs l
 | [],xs,h=>by simp [sZ]at h;subst h;exact eG.nil M
 |v::r,xs,h=>by
  unfold sZ at h;split at h
  ·rename_i x g h1 h2;simp at h;subst h;exact eG.cons (A9 (M:=M) h1).1 (A9 (M:=M) h1).2 (E3 h2)
  ·simp at h
theorem wF{M:Meta}{v:Value}{x:IV}(h:ofValue v=some x):VR M x v/\rH x=true:=by
 unfold ofValue at h;split at h
 ·rename_i cs;obtain⟨xs,h1,h2⟩:=AE.1 h;subst h2;exact⟨by simpa using iJ (E3 (M:=M) h1),rfl⟩
 ·have:=A9 (M:=M) h;refine⟨this.1,?_⟩;have h2:=this.2
  cases x<;>first|rfl|simp [isCell]at h2
theorem Vt{M:Meta}{g:CK}{v:IV}{r:Value}(h:VR M v r):VR M (B3 g v) r:=by
 unfold B3
 split
 ·cases h;exact .vnil
 ·cases h with
  |vslice a rv hn hlen ha him hv hc ht hf=>exact .vslice a rv hn hlen ha him hv hc JH (fun _=> .inl rfl)
  |vnil=>exact .vnil
 ·exact h
theorem a0Q(g:CK)(v:IV):isCell (B3 g v)=isCell v:=by
 unfold B3
 split<;>rfl
theorem Vu{M:Meta} : ∀{l:List CK}{vs:Y14}{rs:List Value},cO M vs rs->cO M (pA l vs) rs
 | [],vs,rs,h=>by simpa [pA]using h
 |ck::r,[],rs,h=>by simpa [pA]using h
 |ck::r,v::vs,rs,h=>by
  obtain⟨q,g,rfl,h1,h2⟩:=h.uncons;exact cO.cons (Vt h1) (Vu h2)
theorem Jb: ∀(l:List CK)(vs:Y14),(pA l vs).length=vs.length
 | [],vs=>rfl
 |ck::r,[]=>rfl
 |ck::r,v::vs=>by simp [pA,Jb r vs]
theorem Ag: ∀(l:List CK)(vs:Y14),(∀(i:Nat)(h:i<vs.length),isCell vs[i]=true)-> ∀(i:Nat)(h:i< (pA l vs).length),isCell (pA l vs)[i]=true
 | [],vs,h,i,hi=>h i hi
 |ck::r,[],h,i,hi=>by simp [pA]at hi
 |ck::r,v::vs,h,i,hi=>by
  cases i with
  |zero=>simp only [pA,GA,a0Q];exact h 0 JH
  |succ i=>simp only [pA,GB];exact Ag r vs (fun j g=>by have:=h (j+1) (by simpa using g);simpa using this) i (by simpa [pA]using hi)
theorem Ja{M:Meta}{l:List CK}{vs:Y14}{rs:List Value}(h:eG M vs rs):eG M (pA l vs) rs:=⟨Vu h.1,Ag l vs h.2⟩
theorem b9S{M:Meta}{P:Program}{t:TypeId}{v:IV}{r:Value}(h:VR M v r):VR M (Fj P t v) r:=by
 unfold Fj
 split
 ·obtain⟨rc,rfl,g⟩:=C4 h;exact iJ (Ja g)
 ·exact Vt h
theorem yA{M:Meta}{P:Program} : ∀{ts:List TypeId}{vs:Y14}{rs:List Value},cO M vs rs->cO M (iX P ts vs) rs
 | [],vs,rs,h=>by simpa [iX]using h
 |t::ts,[],rs,h=>by simpa [iX]using h
 |t::ts,v::vs,rs,h=>by
  obtain⟨q,g,rfl,h1,h2⟩:=h.uncons;exact cO.cons (b9S h1) (yA h2)
def Meta.pure(M:Meta):Meta:= {M with nid:=0,loc:=fun _=>none }
theorem jT: ∀{cs:Y14},aP cs=true-> ∀(i:Nat)(h:i<cs.length),bG cs[i]=true
 | [],_,i,hi=>by simp at hi
 |v::r,h,i,hi=>by
  simp only [aP,AD]at h
  cases i with
  |zero=>exact h.1
  |succ i=>exact jT h.2 i (by simpa using hi)
theorem c0I{M M':Meta}(j: ∀b o v,M.im b o=some v->M'.im b o=some v)(l: ∀b n,M.bsz b=some n->M'.bsz b=some n){x:IV}{r:Value}(h:VR M x r):bG x=true->VR M' x r:=by
 induction h with
 |bool b=>intro _;exact .bool b
 |int k n=>intro _;exact .int k n
 |str s=>intro _;exact .str s
 |nilptr=>intro _;exact .nilptr
 |ptr hl=>intro g;simp [bG]at g
 |vref rv hi hv hc ih=>intro g;simp only [bG]at g;exact .vref rv (fun i h=>j _ _ _ (hi i h)) (fun i h=>ih i h (jT g i h)) hc
 |nilslice=>intro _;exact .nilslice
 |vnil=>intro _;exact .vnil
 |hslice a hl ha hlen=>intro g;simp [bG]at g
 | @vslice id e len sz cap cs a rv hn hlen ha hi hv hc ht hf ih=>
  intro g
  cases id with
  |some id=>simp [bG]at g
  |none=>
   simp only [bG]at g;exact .vslice a rv hn hlen (ha.imp id fun⟨h1,n,h2,h3⟩=>⟨h1,n,l _ _ h2,h3⟩) (fun i h=>j _ _ _ (hi i h)) (fun i h=>ih i h (jT g i h)) hc JH hf
 |nilmap=>intro _;exact .nilmap
 |map hl=>intro g;simp [bG]at g
 |func z A q y D G m p=>
  intro g;simp only [bG,AD]at g;exact .func z A q y (fun i a b=>m i a b (jT g.1 i a)) (fun i a b=>p i a b (jT g.2 i a))
 |nilfunc=>intro _;exact .nilfunc
 |iface h ih=>intro g;simp only [bG]at g;exact .iface (ih g)
 |nilIface=>intro _;exact .nilIface
 |agg rc hn hv hc ih=>intro g;simp only [bG]at g;exact .agg rc hn (fun i a b=>ih i a b (jT g i a)) hc
 |tuple rc hn hv ih=>intro g;simp only [bG]at g;exact .tuple rc hn (fun i a b=>ih i a b (jT g i a))
theorem Jz{M M':Meta}(j: ∀b o v,M.im b o=some v->M'.im b o=some v)(g: ∀b n,M.bsz b=some n->M'.bsz b=some n){xs:Y14}{rs:List Value}(h:cO M xs rs)(l:aP xs=true):cO M' xs rs:=
 ⟨h.1,fun i a b=>c0I j g (h.2 i a b) (jT l i a)⟩
section
variable {P:Program} {M:Meta}
def At(w:World)(b base:Nat)(rc:List Value):Prop:= ∀(i:Nat)(h:i<rc.length),w.cell? ⟨b,base+i,none⟩=some rc[i]
theorem dG(b g n:Nat):(⟨b,g,none⟩:Addr).add n=⟨b,g+n,none⟩:=by
 unfold Addr.add;split<;>simp_all
theorem mQ{t:TypeId}{g:Bool}{n:Nat}(h:gJ P t=some (g,n)):
  ∃d i,P.underlying t=some d/\P.info? t=some i/\N6 d=g/\i.size=n:=by
 unfold gJ at h;split at h
 ·rename_i d i h1 h2;simp at h;exact⟨d,i,h1,h2,h.1,h.2⟩
 ·simp at h
theorem pU{t:TypeId}{d:TypeDesc}(h:P.underlying t=some d)(w:World):(isAgg t).run P w= .ok (N6 d) w:=by
 simp only [isAgg,AQ,run_underlying h,AI]
 cases d<;>rfl
theorem bZ{t:TypeId}{i:TypeInfo}(h:P.info? t=some i)(w:World):(sizeOf t).run P w= .ok i.size w:=by
 simp [sizeOf,typeInfo,h]
theorem nG{α:Type}(l:List α)(a n j:Nat)(x:α)(h:((l.drop a).take n)[j]?=some x):j<n/\l[a+j]?=some x:=by
 rw [DG]at h;split at h
 ·rename_i g;exact⟨g,by simpa [EF]using h⟩
 ·simp at h
theorem xS{t:TypeId}{cs:Y14}{rc:List Value}{w:World}{b base g:Nat}{v:IV}(l:eG M cs rc)(y:At w b base rc)
  (h:fJ P t cs g=some v): ∃r,(loadVar t ⟨b,base+g,none⟩).run P w= .ok r w/\VR M v r:=by
 unfold fJ at h;split at h
 ·rename_i n p;obtain⟨d,i,h1,h2,h3,h4⟩:=mQ p;split at h
  ·rename_i A;simp at h;subst h;refine⟨.agg ((rc.drop g).take n).toArray,?_,iJ ((l.drop g).take n)⟩;have z:((rc.drop g).take n).length=n:=by simp;have:=l.len;omega
   have:=run_loadCells_list (P:=P) w ⟨b,base+g,none⟩ ((rc.drop g).take n) (by
    intro j x K;obtain⟨L,q⟩:=nG _ _ _ _ _ K;obtain⟨m,rfl⟩:=AP.1 q;rw [dG,EV];exact y _ m)
   rw [z]at this;simp only [loadVar,AQ,pU h1,AI,h3,if_true,bZ h2,h4,this,AT]
  ·simp at h
 ·rename_i n p;obtain⟨d,i,h1,h2,h3,h4⟩:=mQ p;obtain⟨r,D,G⟩:=l.get h;obtain⟨m,rfl⟩:=AP.1 D;refine⟨_,?_,G⟩;have:=y g m;simp [loadVar,pU h1,h3,run_load,this]
 ·simp at h
theorem Xf{t:TypeId}{cs:Y14}{rc:List Value}{w:World}{v:IV}(l:eG M cs rc)
  (h:fJ P t cs j=some v): ∃r,(part t rc.toArray j).run P w= .ok r w/\VR M v r:=by
 unfold fJ at h;split at h
 ·rename_i n g;obtain⟨d,i,h1,h2,h3,h4⟩:=mQ g;split at h
  ·rename_i m;simp at h;subst h;refine⟨.agg ((rc.drop j).take n).toArray,?_,iJ ((l.drop j).take n)⟩;simp only [part,AQ,pU h1,AI,h3,if_true,bZ h2,h4,AT]
   congr 2
   apply EN;simp [FQ]
  ·simp at h
 ·rename_i n g;obtain⟨d,i,h1,h2,h3,h4⟩:=mQ g;obtain⟨r,p,q⟩:=l.get h;refine⟨r,?_,q⟩;simp [part,pU h1,h3,p]
 ·simp at h
theorem vG{α:Type}(l:List α)(i:Nat)(v:α)(h:i<l.length):(l.set i v).take (i+1)=l.take i++ [v]:=by
 induction l generalizing i with
 |nil=>simp at h
 |cons x l ih=>cases i with
  |zero=>simp
  |succ i=>simp only [IT,FM,CO];rw [ih i (by simpa using h)]
def pD(rc:List Value)(g:Nat)(c:List Value):List Value:=rc.take g++c++rc.drop (g+c.length)
theorem oO(rc:List Value)(g:Nat)(c:List Value)(h:g+c.length<=rc.length):(pD rc g c).length=rc.length:=by
 simp [pD];omega
theorem eG.spl{cs:Y14}{rc:List Value}(h:eG M cs rc){c:Y14}{r:List Value}(j:eG M c r)(g:Nat):eG M (Pv.spl cs g c) (pD rc g r):=by
 unfold Pv.spl pD
 rw [j.len];exact((h.take g).append j).append (h.drop _)
theorem iZ(b:Nat): ∀(vs:List Value)(o:Nat)(w:World)(rc:Array Value)(j:TypeId)(fz:Nat×Nat),w.heap[b]?=some (.cells rc j fz)->o+vs.length<=rc.size->
  ∃g,(w.setCells b o vs).heap[b]?=some (.cells g j fz)/\g.toList=pD rc.toList o vs
 | [],o,w,rc,j,fz,h,_=>⟨rc,h,by simp [pD]⟩
 |v::r,o,w,rc,j,fz,h,hl=>by
  simp only [AW]at hl;have h1:(w.setCell ⟨b,o,none⟩ v).heap[b]?=some (.cells (rc.setIfInBounds o v) j fz):=by
   simp [World.setCell,DL,h]
  obtain⟨g,h2,h3⟩:=iZ b r (o+1) _ _ _ _ h1 (by simp;omega);refine⟨g,h2,?_⟩;rw [h3];simp only [pD,HE,AW];have l:(rc.toList.set o v).take (o+1)=rc.toList.take o++ [v]:=vG _ _ _ (by simp;omega);have m:(rc.toList.set o v).drop (o+1+r.length)=rc.toList.drop (o+(r.length+1)):=by
   rw [List.drop_set,if_pos JF,show o+1+r.length=o+(r.length+1) by omega]
  rw [l,m];simp
theorem fK(b:Nat): ∀(vs:List Value)(o:Nat)(w:World)(k:Nat),k≠b->(w.setCells b o vs).heap[k]?=w.heap[k]?
 | [],_,_,_,_=>rfl
 |v::r,o,w,k,h=>by
  rw [World.setCells,fK b r (o+1) _ k h];simp only [World.setCell,DL];rw [if_neg (by simpa using fun e=>h e.symm)]
theorem fZ(b:Nat): ∀(vs:List Value)(o:Nat)(w:World),(w.setCells b o vs).heap.size=w.heap.size
 | [],_,_=>rfl
 |v::r,o,w=>by rw [World.setCells,fZ b r (o+1)];simp
theorem fY(b:Nat): ∀(vs:List Value)(o:Nat)(w:World),(w.setCells b o vs).os=w.os/\(w.setCells b o vs).tape=w.tape/\(w.setCells b o vs).output=w.output
 | [],_,_=>⟨rfl,rfl,rfl⟩
 |v::r,o,w=>by
  rw [World.setCells];exact fY b r (o+1) _
theorem Kr{t:TypeId}{cs cs':Y14}{rc:Array Value}{w:World}{b g:Nat}{v:IV}{rv:Value}{fz:Nat×Nat}(Z:eG M cs (rc.toList.take cs.length))
  (hb:w.heap[b]?=some (.cells rc U fz)) (hf: ∀i,i<rc.size->w.frozen? ⟨b,i,none⟩=false) (hv:VR M v rv)
  (h:Bo P t cs g v=some cs'):
  ∃p,(storeVar t ⟨b,g,none⟩ rv).run P w= .ok () (w.setCells b g rv.cells.toList)/\(w.setCells b g rv.cells.toList).heap[b]?=some (.cells p U fz)/\
   p.size=rc.size/\cs'.length=cs.length/\eG M cs' (p.toList.take cs'.length)/\p.toList.drop cs.length=rc.toList.drop cs.length:=by
 unfold Bo at h;simp only at h;split at h
 case isFalse=>simp at h
 rename_i D;split at h
 case h_2=>simp at h
 rename_i n V;split at h
 case isFalse=>simp at h
 rename_i y;obtain⟨O,a0⟩:=y;simp at h;have z:=kI hv D;have Y: ∃i,P.info? t=some i/\i.size=n:=by
  unfold gP at V
  cases G:P.info? t with
  |none=>simp [G]at V
  |some i=>exact⟨i,rfl,by simpa [G]using V⟩
 obtain⟨i,G,K⟩:=Y;have a1:cs.length<=rc.size:=by have:=Z.len;simp at this;omega
 have m:rv.cells.toList.length=n:=by rw [<-z.len,O]
 obtain⟨p,h1,h2⟩:=iZ b rv.cells.toList g w rc U fz hb (by rw [m];omega);have r:cs'=Pv.spl cs g (cellsOf v):=by rw [<-h];simp [Pv.spl,O]
 have q:cs'.length=cs.length:=by rw [r];simp [Pv.spl,O];omega
 have A:p.size=rc.size:=by
  have:=congrArg List.length h2;rw [oO _ _ _ (by rw [m];simp;omega)]at this;simpa using this
 refine⟨p,?_,h1,A,q,?_,?_⟩
 ·have X:=run_storeCells_cells (P:=P) b g rv.cells.toList 0 w (by
    intro j L;rw [m]at L;simp only [World.cell?,hb,EP];simp [show g+j<rc.size from JF])
   (by
    intro j L;rw [m]at L;simpa using hf (g+j) JF) z.one
  have R:rv.cells.size=i.size:=by rw [K,<-m];simp
  simp only [storeVar,AQ,bZ G,AI];rw [if_neg (by simpa using R)];simpa using X
 ·rw [q,r,h2];have e:(pD rc.toList g rv.cells.toList).take cs.length=pD (rc.toList.take cs.length) g rv.cells.toList:=by
   simp only [pD,m];rw [FG,FG];simp only [AR,AJ,m,IE];rw [show min g rc.toList.length=g from by simp;omega];rw [show min cs.length g=g from JF,show min g cs.length=g from JF];rw [AM (l:=rv.cells.toList) (by rw [m];omega)]
   congr 1
   rw [List.drop_take]
  rw [e];exact Z.spl z g
 ·rw [h2];simp only [pD,m];rw [HR,HR];simp only [AR,AJ,m];rw [show min g rc.toList.length=g from by simp;omega];rw [ID (by simp;omega),ID (by rw [m];omega)];rw [List.drop_drop,show g+n+(cs.length- (g+n))=cs.length from JF];rfl
def PR(M:Meta):List (Nat×IV)->List (Nat×Value)->Prop
 | [],[]=>True
 | (i,x)::r,(j,v)::s=>i=j/\VR M x v/\PR M r s
 |_,_=>False
theorem Y8(g:Nat): ∀(l:List Value)(k:Nat)(rc:Array Value),g+k+l.length<=rc.size->
  ((l.zipIdx k).foldl (fun cs (c,j)=>cs.setIfInBounds (g+j) c) rc).toList=pD rc.toList (g+k) l
 | [],k,rc,_=>by simp [pD]
 |c::l,k,rc,h=>by
  simp only [AW]at h;simp only [List.zipIdx_cons,List.foldl_cons];rw [Y8 g l (k+1) (rc.setIfInBounds (g+k) c) (by simp;omega)];simp only [pD,HE,AW];have m:(rc.toList.set (g+k) c).take (g+(k+1))=rc.toList.take (g+k)++ [c]:=vG _ _ _ (by simp;omega);have p:(rc.toList.set (g+k) c).drop (g+(k+1)+l.length)=rc.toList.drop (g+k+(l.length+1)):=by
   rw [List.drop_set,if_pos JF,show g+(k+1)+l.length=g+k+(l.length+1) by omega]
  rw [m,p];simp
theorem Gn{β:Type}(a:Array Value)(f:β->Value×Nat->β)(z:β):a.zipIdx.foldl f z=(a.toList.zipIdx).foldl f z:=by
 rw [<-Array.foldl_toList,Array.toList_zipIdx]
theorem xK{l:Nat->Option (Nat×Nat)} : ∀{ps:List (Nat×IV)}{rs:List (Nat×Value)}{g:Y14}{rc:Array Value}{m:Y14},PR M ps rs->eG M g rc.toList->
  oK l g ps=some m-> ∃ro:Array Value,Instr.fill l rc rs=some ro/\eG M m ro.toList
 | [],[],g,rc,m,_,hc,h=>by simp [oK]at h;subst h;exact⟨rc,rfl,hc⟩
 | [],_::_,_,_,_,y,_,_=>y.elim
 |_::_,[],_,_,_,y,_,_=>y.elim
 | (i,x)::r,(j,v)::s,g,rc,m,y,hc,h=>by
  obtain⟨rfl,K,y⟩:=y;unfold oK at h;unfold Instr.fill
  cases hpl:l i with
  |none=>simp [hpl]at h
  |some q=>
   obtain⟨G,n⟩:=q;simp only [hpl]at h⊢;split at h
   case isFalse=>simp at h
   rename_i p;obtain⟨h1,h2,h3⟩:=p;have z:=kI K h3;have D:v.cells.size=n:=by have:=z.len;simp at this;omega
   have A:rc.size=g.length:=by have:=hc.len;simpa using this.symm
   rw [if_neg (by simp [D,A];omega)];refine xK (ps:=r) y ?_ h;rw [Gn];have:=Y8 G v.cells.toList 0 rc (by simp [D,A];omega);simp only [EP]at this;rw [this];exact hc.spl z G
end
section
variable {P:Program} {M:Meta} (w:World)
theorem Sc{op:BinOp}{k:IntKind}{a b:Int}{v:IV}(t:TypeId)(h:sX op k a b=some v): ∃r,(binOp op t (.int k a) (.int k b)).run P w= .ok r w/\VR M v r:=by
 cases op<;>simp only [sX]at h
 case quo=>
  split at h
  ·simp at h
  ·rename_i g;simp at h;subst h;exact⟨_,by simp [binOp,Op.intDiv,g],.int _ _⟩
 case rem=>
  split at h
  ·simp at h
  ·rename_i g;simp at h;subst h;exact⟨_,by simp [binOp,Op.intDiv,g],.int _ _⟩
 all_goals (first| (simp at h;done)| (simp only [AB]at h;subst h))
 ·exact⟨_,by rw [binOp_add];rfl,.int _ _⟩
 ·exact⟨_,by rw [binOp_sub];rfl,.int _ _⟩
 ·exact⟨_,by rw [binOp_mul];rfl,.int _ _⟩
 ·exact⟨_,by rw [binOp_and];rfl,.int _ _⟩
 ·exact⟨_,by rw [binOp_or];rfl,.int _ _⟩
 ·exact⟨_,by rw [binOp_xor];rfl,.int _ _⟩
 ·exact⟨_,by rw [binOp_andNot];rfl,.int _ _⟩
 ·exact⟨_,by rw [binOp_eql];rfl,.bool _⟩
 ·exact⟨_,by rw [binOp_neq];rfl,.bool _⟩
 ·exact⟨_,by rw [binOp_lss];rfl,.bool _⟩
 ·exact⟨_,by rw [binOp_leq];rfl,.bool _⟩
 ·exact⟨_,by rw [binOp_gtr];rfl,.bool _⟩
 ·exact⟨_,by rw [binOp_geq];rfl,.bool _⟩
theorem yH{op:BinOp}{k yk:IntKind}{a b:Int}{v:IV}(t:TypeId)(j:op= .shl\/op= .shr)(h:pV op k a b=some v):
  ∃r,(binOp op t (.int k a) (.int yk b)).run P w= .ok r w/\VR M v r:=by
 unfold pV at h;split at h
 ·simp at h
 ·rename_i g;rcases j with rfl|rfl<;>simp only [AB]at h<;>subst h
  ·exact⟨_,by rw [binOp_shl];simp [Op.shift,g],.int _ _⟩
  ·exact⟨_,by rw [binOp_shr];simp [Op.shift,g],.int _ _⟩
theorem Se{op:BinOp}{a b:ByteArray}{v:IV}(t:TypeId)(h:T2 op a.data.toList b.data.toList=some v):
  ∃r,(binOp op t (.string a) (.string b)).run P w= .ok r w/\VR M v r:=by
 have j:=ByteArray.toList_eq a;have l:=ByteArray.toList_eq b
 cases op<;>simp only [T2]at h
 case add=>
  split at h
  ·simp at h
  ·rename_i g;simp only [AB]at h;subst h;have m: ¬ (((a.size+b.size:Nat):Int)>IntKind.i64.max):=by
    rw [IntKind.max_i64];simp only [ER]at g;exact g
   refine⟨.string (a++b),?_,?_⟩
   ·simp only [binOp,Op.stringOp];rw [if_neg m];rfl
   ·have:=VR.str (M:=M) (a++b)
    rwa [show(a++b).data.toList=a.data.toList++b.data.toList from JH]at this
 all_goals first
  | (simp at h;done)
  | (simp only [AB]at h;subst h;exact⟨_,by simp [binOp,Op.stringOp,j,l],.bool _⟩)
theorem tH{d:TypeDesc}{x y:IV}{r:Bool}{a b:Value}{t:TypeId}(n:Nat)(g:P.underlying t=some d)(h:dH d x y=some r)(j:VR M x a)(l:VR M y b):
  (Op.equalIn (n+1) t a b).run P w= .ok r w:=by
 unfold dH at h;split at h
 ·simp at h;subst h;cases j;cases l;exact run_equalIn_bool w n t _ _ g
 ·split at h
  ·rename_i m;simp at h;subst h;subst m;cases j;cases l;exact run_equalIn_int w n t _ _ _ _ g
  ·simp at h
 ·simp at h;subst h
  cases j with|str p=>cases l with|str q=>
  rw [run_equalIn_string w n t _ _ g,ByteArray.toList_eq,ByteArray.toList_eq]
 ·simp at h
theorem mP{t:TypeId}{d:TypeDesc}{rc:List Value}{r:Value}(g:P.underlying t=some d)(hd:N6 d=false)(h:rc[i]?=some r):
  (part t rc.toArray i).run P w= .ok r w:=by
 simp [part,pU g,hd,h]
theorem lO{d:TypeDesc}{x y:IV}{r:Bool}(h:dH d x y=some r):N6 d=false:=by
 cases d<;>first|rfl|simp [dH]at h
theorem E0(n:Nat){xs ys:Y14}(hx:eG M xs V)(hy:eG M ys W): ∀{fs:List Field}{r:Bool},nE P fs xs ys=some r->
  (Op.eqFields (n+1) V.toArray W.toArray fs).run P w= .ok r w
 | [],r,h=>by simp [nE]at h;subst h;rfl
 |f::fs,r,h=>by
  unfold nE at h;split at h
  ·simp at h
  rename_i hn
  have hn' : f.name ≠ "_" := by simpa using hn
  split at h
  case h_2=>simp at h
  rename_i d x y h1 h2 h3;obtain⟨a,ha,va⟩:=hx.get h2;obtain⟨b,hb,vb⟩:=hy.get h3;split at h
  ·rename_i hs;have e1:=mP (P:=P) w h1 (lO hs) ha;have e2:=mP (P:=P) w h1 (lO hs) hb;have e3:=tH (P:=P) w n h1 hs va vb;simp only [Op.eqFields,if_pos hn',AQ,e1,e2,e3,AI,DS,AU,if_false];exact E0 n hx hy h
  ·rename_i hs;simp at h;subst h;have e1:=mP (P:=P) w h1 (lO hs) ha;have e2:=mP (P:=P) w h1 (lO hs) hb;have e3:=tH (P:=P) w n h1 hs va vb;simp only [Op.eqFields,if_pos hn',AQ,e1,e2,e3,AI,DK,if_true,AT]
  ·simp at h
theorem Ur{c:Bool}{t:TypeId}{x y:IV}{r:Bool}{a b:Value}(op:BinOp)(p q:Operand)(L:c=(lN p||lN q))(h:Zv P c t x y=some r)(l:VR M x a)(m:VR M y b):
  (Op.equal t a b).run P w= .ok r w/\(eqGuard op t p q a b).run P w= .ok () w:=by
 unfold Zv at h
 cases hu:P.underlying t with
 |none=>simp [hu]at h
 |some d=>
  have base:dH d x y=some r->(Op.equal t a b).run P w= .ok r w/\(eqGuard op t p q a b).run P w= .ok () w:=by
   intro z;refine⟨tH w 9999 hu z l m,?_⟩;unfold dH at z;split at z
   ·cases l;cases m;rw [eqGuard_at_bool];rfl
   ·cases l;cases m;rw [eqGuard_at_int];rfl
   ·cases l;cases m;rw [eqGuard_at_string];rfl
   ·simp at z
  have g: ∀(k:Nat),(∀n,(Op.equalIn (n+1) t a b).run P w= .ok r w)->(Op.equal t a b).run P w= .ok r w:=fun _ O=>O 9999
  simp only [hu]at h
  cases d<;>simp only at h<;>first|exact base h|skip
  case struct fs=>
   split at h
   case h_2=>simp at h
   rename_i xs X;split at h
   ·simp at h
   rename_i A;simp only [CJ,not_or,FH]at A;obtain⟨R,rfl,G⟩:=C4 l;obtain⟨V,rfl,K⟩:=C4 m;refine⟨?_,run_eqGuard_agg w op t p q _ _ A.2⟩;have hf:P.fieldsOf t=fs:=by simp [Program.fieldsOf,hu]
   have:=run_equalIn_struct (P:=P) w 9999 t R.toArray V.toArray (by rw [hf];exact hu) A.1;rw [hf]at this;show(Op.equalIn (9999+1) t _ _).run P w=_;rw [this];exact E0 w 9998 G K h
  case pointer e=>
   split at h
   all_goals (first| (simp at h;done)|skip)
   all_goals
    simp only [AB]at h;subst h
    cases l
    cases m
    refine⟨g 9999 (by intro n;simp [Op.equalIn,run_underlying hu]),by rw [eqGuard_at_pointer];rfl⟩
  case interface ms=>
   split at h
   case h_1=>
    split at h
    case isFalse=>simp at h
    rename_i j;simp at h;subst h;cases l;cases m;refine⟨g 9999 (by intro n;simp [Op.equalIn,run_underlying hu]),?_⟩;rw [L,CJ]at j;have:((match p with| .const _=>true|_=>false)|| (match q with| .const _=>true|_=>false))=true:=by
     rcases j with j|j<;>(unfold lN at j;split at j<;>simp_all)
    cases p<;>cases q<;>first| (simp [lN]at j;done)| (cases op<;>rfl)
   all_goals (first| (simp at h;done)|skip)
   all_goals
    simp only [AB]at h;subst h
    cases l
    cases m
    refine⟨g 9999 (by intro n;simp [Op.equalIn,run_underlying hu]),by cases op<;>rfl⟩
  case slice e=>
   split at h
   all_goals (first| (simp at h;done)|skip)
   case h_4=>
    split at h
    case isFalse=>simp at h
    rename_i D;simp only [AB]at h;subst h
    cases l
    cases m
    ·simp at D
    ·refine⟨g 9999 (by intro n;simp [Op.equalIn,run_underlying hu]),by rw [eqGuard_at_slice];rfl⟩
   case h_5=>
    split at h
    case isFalse=>simp at h
    rename_i D;simp only [AB]at h;subst h
    cases m
    cases l
    ·simp at D
    ·refine⟨g 9999 (by intro n;simp [Op.equalIn,run_underlying hu]),by rw [eqGuard_at_slice];rfl⟩
   all_goals
    simp only [AB]at h;subst h
    cases l
    cases m
    refine⟨g 9999 (by intro n;simp [Op.equalIn,run_underlying hu]),by rw [eqGuard_at_slice];rfl⟩
  case map k e=>
   split at h
   all_goals (first| (simp at h;done)|skip)
   all_goals
    simp only [AB]at h;subst h
    cases l
    cases m
    refine⟨g 9999 (by intro n;simp [Op.equalIn,run_underlying hu]),by rw [eqGuard_at_map];rfl⟩
  case func ps rs vr=>
   split at h
   all_goals (first| (simp at h;done)|skip)
   all_goals
    simp only [AB]at h;subst h
    cases l
    cases m
    refine⟨g 9999 (by intro n;simp [Op.equalIn,run_underlying hu]),by first| (rw [eqGuard_at_nilFunc];rfl)| (rw [eqGuard_at_func];rfl)⟩
end
section
variable {P:Program} {M:Meta} (w:World)
theorem a1L{t:TypeId}{x y:IV}{a b:Value}(r:VR M x a)(g:VR M y b)(j: ∀k p k' q,¬ (x= .int k p/\y= .int k' q))(l: ∀p q,¬ (x= .str p/\y= .str q)):
  binOp .eql t a b=(do pure (.bool (<-Op.equal t a b)))/\binOp .neq t a b=(do pure (.bool (!(<-Op.equal t a b)))):=by
 cases r
 case int k n=>
  cases g
  case int k' m=>exact absurd ⟨rfl,rfl⟩ (j k n k' m)
  all_goals exact⟨by simp [binOp],by simp [binOp]⟩
 case str p=>
  cases g
  case str q=>exact absurd ⟨rfl,rfl⟩ (l _ _)
  all_goals exact⟨by simp [binOp],by simp [binOp]⟩
 all_goals exact⟨by simp [binOp],by simp [binOp]⟩
theorem a3O{op:BinOp}{c:Bool}{t:TypeId}{x y v:IV}{a b:Value}(m z:Operand)(K:c=(lN m||lN z))(D:VR M x a)(G:VR M y b)(h:oI P op c t x y=some v):
  ∃r,(do eqGuard op t m z a b;binOp op t a b:Sem Value).run P w= .ok r w/\VR M v r:=by
 unfold oI at h;split at h
 ·rename_i k p l q
  cases D;cases G
  have A:(eqGuard op t m z (.int k p) (.int l q)).run P w= .ok () w:=by rw [eqGuard_at_int];rfl
  split at h
  ·obtain⟨r,h1,h2⟩:=yH (P:=P) (M:=M) (yk:=l) w t (.inl rfl) h;exact⟨r,by simp only [AQ,A,AI];exact h1,h2⟩
  ·obtain⟨r,h1,h2⟩:=yH (P:=P) (M:=M) (yk:=l) w t (.inr rfl) h;exact⟨r,by simp only [AQ,A,AI];exact h1,h2⟩
  ·split at h
   ·rename_i O;subst O;obtain⟨r,h1,h2⟩:=Sc (P:=P) (M:=M) w t h;exact⟨r,by simp only [AQ,A,AI];exact h1,h2⟩
   ·simp at h
 ·cases D with|str p=>cases G with|str q=>
  have A:(eqGuard op t m z (.string p) (.string q)).run P w= .ok () w:=by rw [eqGuard_at_string];rfl
  obtain⟨r,h1,h2⟩:=Se (P:=P) (M:=M) w t h;exact⟨r,by simp only [AQ,A,AI];exact h1,h2⟩
 ·rename_i V X;have L: ∀k p l q,¬ (x= .int k p/\y= .int l q):=fun k p l q ⟨g,j⟩=>V k p l q g j
  have R: ∀p q,¬ (x= .str p/\y= .str q):=fun p q ⟨g,j⟩=>X p q g j
  obtain⟨Y,Z⟩:=a1L (t:=t) D G L R;split at h
  ·obtain⟨r,h1,h2⟩:=AE.1 h;subst h2;obtain⟨g,j⟩:=Ur (P:=P) w .eql m z K h1 D G;exact⟨.bool r,by simp only [AQ,j,AI,Y,g,AT],.bool _⟩
  ·obtain⟨r,h1,h2⟩:=AE.1 h;subst h2;obtain⟨g,j⟩:=Ur (P:=P) w .neq m z K h1 D G;exact⟨.bool !r,by simp only [AQ,j,AI,Z,g,AT],.bool _⟩
  ·simp at h
theorem c1V{op:UnOp}{x v:IV}{a:Value}(g:VR M x a)(h:d1W op x=some v): ∃r,(Op.unary op a).run P w= .ok r w/\VR M v r:=by
 unfold d1W at h;split at h
 ·simp only [AB]at h;subst h;cases g;exact⟨_,by simp only [Op.unary,Op.intArith];rfl,.int _ _⟩
 ·rename_i k n;simp only [sX,AB]at h;subst h;cases g;exact⟨_,by simp only [Op.unary,Op.intBits];rfl,.int _ _⟩
 ·simp at h;subst h;cases g;exact⟨_,by simp only [Op.unary];rfl,.bool _⟩
 ·simp at h
theorem J9: ∀{cs:Y14}{rc:List Value}{b:Y11},cO M cs rc->jH cs=some b-> ∃g:Y12,rc=g.map (Value.int .u8)/\b=g.map fun n=>UInt8.ofNat n.toNat
 | [],rc,b,hv,h=>by
  cases rc with
  |nil=>simp [jH]at h;subst h;exact⟨[],rfl,rfl⟩
  |cons r rs=>simp [cO]at hv
 |x::cs,rc,b,hv,h=>by
  obtain⟨r,m,rfl,h1,h2⟩:=hv.uncons;unfold jH at h;split at h
  case h_1 e=>simp at e
  case h_2 n r' e=>
   simp only [BI]at e;obtain⟨rfl,rfl⟩:=e;obtain⟨p,h3,h4⟩:=AE.1 h;subst h4
   cases h1
   obtain⟨g,j,l⟩:=J9 h2 h3;exact⟨n::g,by simp [j],by simp [l]⟩
  case h_3=>simp at h
theorem pG{cs:Y14}{rc:List Value}{b:Y11}{a:Addr}{cap:Nat}(g:cO M cs rc)(h:jH cs=some b)
  (hm:(loadCells a rc.length).run P w= .ok rc.toArray w):(Conv.bytesToString (.slice (some a) rc.length cap)).run P w= .ok (.string ⟨b.toArray⟩) w:=by
 obtain⟨j,h1,h2⟩:=J9 g h;rw [run_bytesToString w a rc.length cap j (by rw [hm,h1]),foldl_push_bytes,h2];show Result.ok (Value.string ⟨#[]++_⟩) w=_;simp
theorem xR{rc:List Value}{b base:Nat}(h:At w b base rc):(loadCells ⟨b,base,none⟩ rc.length).run P w= .ok rc.toArray w:=
 run_loadCells_list (P:=P) w ⟨b,base,none⟩ rc (fun j v g=>by
  obtain⟨l,rfl⟩:=AP.1 g;rw [dG];exact h _ l)
theorem Zn{s d:TypeId}{x v:IV}{a:Value}(y: ∀b o u,M.im b o=some u->w.cell? ⟨b,o,none⟩=some u)(l:VR M x a)(h:Dg P s d x=some v):
  ∃r,(convert s d a).run P w= .ok r w/\VR M v r:=by
 unfold Dg at h
 cases hs:P.underlying s with
 |none=>simp [hs]at h
 |some ds=>
  cases hd:P.underlying d with
  |none=>simp [hs,hd]at h
  |some dd=>
   simp only [hs,hd]at h;split at h
   ·simp only [AB]at h;subst h;cases l;exact⟨_,by simp [convert,run_underlying hs,run_underlying hd,Conv.intToInt],.int _ _⟩
   ·simp only [AB]at h;subst h;cases l;exact⟨_,by simp [convert,run_underlying hs,run_underlying hd],.str _⟩
   ·split at h
    case h_2=>simp at h
    rename_i e;split at h
    case h_2=>simp at h
    rename_i m;split at h
    ·simp only [AB]at h;subst h;cases l;refine⟨_,by rw [run_convert_bytes_string w s d e _ _ _ hs m hd];rfl,?_⟩;exact VR.str (M:=M) ByteArray.empty
    ·rename_i L e' len cs z;clear z;obtain⟨b,h1,h2⟩:=AE.1 h;subst h2
     cases l with
     |vnil=>
      simp only [jH,AB]at h1;subst h1;refine⟨_,by rw [run_convert_bytes_string w s d e _ _ _ hs m hd];rfl,?_⟩;exact VR.str (M:=M) ByteArray.empty
     | @vslice _ _ _ _ cap _ a rv hn hlen ha him' hv hc ht hf=>
      refine⟨.string ⟨b.toArray⟩,?_,b2N b⟩;rw [run_convert_bytes_string w s d e _ _ _ hs m hd];have g:cap=0\/a.spot=none:=ha.imp id (·.1);have K:cO M cs ((List.range cs.length).map rv):=⟨JH,fun i p q=>by simpa using hv i p⟩;have G:((List.range cs.length).map rv).length=len:=by simp [hn]
      rw [<-G];refine pG w K h1 ?_
      by_cases h0:cs.length=0
      ·simp [h0,loadCells,loadCellsFrom]
      ·have j:a.spot=none:=by
        rcases g with g|g
        ·omega
        ·exact g
       obtain⟨O,R,D⟩:=a;simp only at j;subst j;exact xR w (fun i A=>by simp at A;simpa using y _ _ _ (him' i A))
    ·simp at h
   ·simp at h
theorem qN{tv:Option TV}{n:Int}(h:W3 tv=some n): ∃k,tv=some (.v (.int k n)):=by
 unfold W3 at h;split at h
 ·simp at h;subst h;exact⟨_,rfl⟩
 ·simp at h
theorem tG{k:IntKind}{i:Int}{y:Nat}{g:BoundsCode}(h:0<=i/\i<=y):(Instr.sliceBound (.int k i) y g).run P w= .ok i.toNat w:=by
 simp [Instr.sliceBound,asIntOf,h]
def BR(M:Meta):Option (Option TV)->Option Value->Prop
 |none,none=>True
 |some (some (.v x)),some r=>VR M x r
 |some (some (.l _ _)),some _=>True
 |some (some .u),some _=>True
 |some none,some _=>True
 |_,_=>False
theorem He{o:Option (Option TV)}{r:Option Value}{d n:Int}(e:(match o with|none=>some d|some x=>W3 x)=some n)(b:BR M o r):
  (r=none/\d=n) \/ ∃k,r=some (.int k n):=by
 cases o with
 |none=>
  cases r with
  |none=>simp at e;exact .inl ⟨rfl,e⟩
  |some r=>exact b.elim
 |some tv=>
  obtain⟨k,rfl⟩:=qN e
  cases r with
  |none=>exact b.elim
  |some r=>cases b;exact .inr ⟨k,rfl⟩
theorem kA{isSlice:Bool}{len cap l h:Nat}{A y:Option (Option TV)}{p m:Option Value}(O:len<=cap)(r:BR M A p)(q:BR M y m)(j:iC len A y=some (l,h)):
  l<=h/\h<=len/\(Instr.sliceBounds isSlice len cap p m none).run P w= .ok (l,h,cap) w:=by
 unfold iC at j;simp only at j;split at j
 case h_2=>simp at j
 rename_i z h' G K;split at j
 case isFalse=>simp at j
 rename_i L;obtain⟨R,V,X⟩:=L;simp only [AB,BT]at j;obtain⟨rfl,rfl⟩:=j;refine⟨JF,JF,?_⟩;have r1: ∀k g,(Instr.sliceBound (.int k h') cap g).run P w= .ok h'.toNat w:=fun k g=>tG w ⟨JF,JF⟩
 have r2: ∀k g,(Instr.sliceBound (.int k z) h'.toNat g).run P w= .ok z.toNat w:=fun k g=>tG w ⟨JF,JF⟩
 rcases He G r with⟨rfl,q1⟩| ⟨k1,rfl⟩<;>rcases He K q with⟨rfl,D⟩| ⟨k2,rfl⟩
 ·subst q1;subst D;simp [Instr.sliceBounds]
 ·subst q1;simp [Instr.sliceBounds,r1]
 ·subst D;simp only [AK]at r2;simp [Instr.sliceBounds,r2]
 ·simp [Instr.sliceBounds,r1,r2]
end
section
variable {P:Program} {M:Meta} (w:World)
theorem dP{t:TypeId}{n:Nat}(h:gP P t=some n): ∃i,P.info? t=some i/\i.size=n:=by
 unfold gP at h;obtain⟨i,h1,h2⟩:=AE.1 h;exact⟨i,h1,h2⟩
theorem mN{t:TypeId}{n:Nat}(h:jI P t=some n): ∃i,P.info? t=some i/\i.bytes=n:=by
 unfold jI at h;obtain⟨i,h1,h2⟩:=AE.1 h;exact⟨i,h1,h2⟩
theorem eS{t:TypeId}{z:IV}(h:dD P t=some z): ∃i r,P.info? t=some i/\i.zero=some r/\VR M z r/\rH z=true:=by
 unfold dD at h;obtain⟨r,h1,h2⟩:=CH.1 h;obtain⟨i,h3,h4⟩:=CH.1 h1;exact⟨i,r,h3,h4,(wF (M:=M) h2).1,(wF (M:=M) h2).2⟩
theorem X1{id:Y10}{e len sz l h cap:Nat}{cs:Y14}{a:Option Addr}(Y:VR M (.vslice id e len sz cs) (.slice a len cap))(X:l<=h)(hh:h<=len):
  VR M (.vslice id (e- (len-h)*sz) (h-l) sz ((cs.drop (l*sz)).take ((h-l)*sz))) (.slice (if cap=l then a else a.map (·.add (l*sz))) (h-l) (cap-l)):=by
 cases Y with
 |vnil=>
  obtain rfl:h=0:=JF;obtain rfl:l=0:=JF;simpa using VR.vnil
 |vslice a rv hn hlen ha him hv hc ht hf=>
  have G:l*sz+(h-l)*sz=h*sz:=by rw [<-Nat.add_mul];congr 1;omega
  have z:h*sz+(len-h)*sz=len*sz:=by rw [<-Nat.add_mul];congr 1;omega
  have g:((cs.drop (l*sz)).take ((h-l)*sz)).length=(h-l)*sz:=by simp;omega
  have p:id=none->e- (len-h)*sz=0\/ (e- (len-h)*sz=1/\cap-l=h-l/\0<sz):=by
   intro r;rcases hf r with rfl| ⟨rfl,rfl,h0⟩
   ·exact .inl JF
   ·by_cases hhl:h=cap
    ·exact .inr ⟨by subst hhl;simp,JF,h0⟩
    ·have:1*1<=(cap-h)*sz:=Nat.mul_le_mul JF h0;exact .inl JF
  by_cases hcap:cap=l
  ·have m:h-l=0:=JF;rw [if_pos hcap];refine .vslice a (fun _=>undef) g JF (.inl JF) ?_ ?_ ?_ ?_ p
   ·intro i j;rw [g,m]at j;omega
   ·intro i j;rw [g,m]at j;omega
   ·intro i j;rw [g,m]at j;omega
   ·intro i j;obtain⟨h1,h0,h2,h3⟩:=ht i j;rw [g,m];exact⟨h1,JF,JF,fun _=> .inl JF⟩
  ·rw [if_neg hcap];have D:a.spot=none/\∃n,M.bsz a.block=some n/\a.off+cap*sz<=n:=ha.resolve_left JF
   obtain⟨L,O,R⟩:=a;obtain⟨K,n,V,y⟩:=D;simp only at K;subst K;simp only [DE,dG];have A:l*sz+(cap-l)*sz=cap*sz:=by rw [<-Nat.add_mul];congr 1;omega
   refine .vslice ⟨L,O+l*sz,none⟩ (fun i=>rv (l*sz+i)) g JF (.inr ⟨rfl,n,V,by simp only at y⊢;omega⟩) ?_ ?_ ?_ ?_ p
   ·intro i j;rw [g]at j;have:=him (l*sz+i) JF;simpa [EV]using this
   ·intro i j;rw [g]at j;simp only [EZ,FX];exact hv _ _
   ·intro i j;simp only [EZ,FX];exact hc _ _
   ·intro i j;obtain⟨h1,h0,h2,h3⟩:=ht i j;refine⟨h1,by rw [g];omega,JF,fun Z=>?_⟩;have q:e=M.tip i:=JF;rcases h3 q with h3|h3
    ·have:cap=l:=JF;exact absurd this hcap
    ·refine .inr ?_;rw [h3,g];simp only [BT,true_and];omega
theorem vH{id g len sz l h cap:Nat}{a:Addr}(r:VR M (.hslice id g len sz) (.slice (some a) len cap))(q:l<=h)(y:h<=len):
  VR M (.hslice id (g+l*sz) (h-l) sz) (.slice (if cap=l then some a else(some a).map (·.add (l*sz))) (h-l) (cap-l)):=by
 cases r with
 | @hslice _ _ _ _ _ b _ hl ha hlen=>
  by_cases hcap:cap=l
  ·rw [if_pos hcap];exact .hslice a hl (.inl JF) JF
  ·rw [if_neg hcap];obtain⟨rfl,n,m,p⟩:=ha.resolve_left JF;simp only [DE,dG];have j:l*sz+(cap-l)*sz=cap*sz:=by rw [<-Nat.add_mul];congr 1;omega
   exact .hslice _ hl (.inr ⟨rfl,n,m,JF⟩) JF
theorem rQ{id:Y10}{e len sz:Nat}{cs:Y14}{r:Value}(g:VR M (.vslice id e len sz cs) r): ∃a cap,r= .slice a len cap/\len<=cap/\cs.length=len*sz:=by
 cases g with
 |vslice a rv hn hlen=>exact⟨some a,_,rfl,hlen,hn⟩
 |vnil=>exact⟨none,0,rfl,AG _,JH⟩
theorem qX{id g len sz:Nat}{r:Value}(j:VR M (.hslice id g len sz) r): ∃a cap,r= .slice (some a) len cap/\len<=cap:=by
 cases j with
 |hslice a hl ha hlen=>exact⟨a,_,rfl,hlen⟩
theorem Sk{t:TypeId}{x v:IV}{a:Value}{O L:Option (Option TV)}{A z:Option Value}(D:VR M x a)(j:BR M O A)(g:BR M L z)(h:rN P t x O L=some v):
  ∃r,(Instr.sliceAt t a A z none).run P w= .ok r w/\VR M v r:=by
 unfold rN at h
 cases hu:P.underlying t with
 |none=>simp [hu]at h
 |some d=>
  simp only [hu]at h
  cases d<;>simp only at h<;>first| (simp at h;done)|skip
  case string=>
   split at h
   case h_2=>simp at h
   obtain⟨⟨l,k⟩,h1,h2⟩:=AE.1 h;subst h2
   cases D with|str s=>
   obtain⟨c1,c2,m⟩:=kA (P:=P) (isSlice:=false) w (AG _) j g h1;simp only [ER]at c2 m;refine⟨.string (s.extract l k),?_,?_⟩
   ·simp only [Instr.sliceAt,AQ,run_underlying hu,AI,Instr.slice];have K:(Instr.sliceBounds false s.size s.size A z none).run P w= .ok (l,k,s.size) w:=m;simp [K]
   ·have:=VR.str (M:=M) (s.extract l k)
    rwa [show(s.extract l k).data.toList=(s.data.toList.drop l).take (k-l)from by simp [ByteArray.data_extract,FQ]]at this
  case slice e=>
   cases hz:gP P e with
   |none=>simp [hz]at h
   |some sz=>
    obtain⟨i,p,G⟩:=dP hz;simp only [hz]at h;split at h
    ·obtain⟨⟨l,k⟩,h1,h2⟩:=AE.1 h;subst h2
     cases D
     obtain⟨c1,c2,m⟩:=kA (P:=P) (isSlice:=true) w (AG _) j g h1;have X:l=0:=JF;have V:k=0:=JF;subst X;subst V;exact⟨.slice none 0 0,by simp [Instr.sliceAt,Instr.slice,run_underlying hu,m,bZ p],.nilslice⟩
    ·split at h
     case isFalse=>simp at h
     rename_i y;subst y;obtain⟨⟨l,k⟩,h1,h2⟩:=AE.1 h;subst h2;obtain⟨R,cap,rfl,q⟩:=qX D;obtain⟨c1,c2,m⟩:=kA (P:=P) (isSlice:=true) w q j g h1;exact⟨_,by simp only [Instr.sliceAt,Instr.slice,AQ,run_underlying hu,AI,m,bZ p,G,AT],vH D c1 c2⟩
    ·split at h
     case isFalse=>simp at h
     rename_i y;subst y;obtain⟨⟨l,k⟩,h1,h2⟩:=AE.1 h;subst h2;obtain⟨R,cap,rfl,q,Y⟩:=rQ D;obtain⟨c1,c2,m⟩:=kA (P:=P) (isSlice:=true) w q j g h1;exact⟨_,by simp only [Instr.sliceAt,Instr.slice,AQ,run_underlying hu,AI,m,bZ p,G,AT],X1 D c1 c2⟩
    ·simp at h
def TR(M:Meta)(pb:Nat->Nat):TV->Value->Prop
 | .v x,r=>VR M x r
 | .l s off,r=>r= .pointer (some ⟨pb s,off,none⟩)
 | .u,r=>r=undef
theorem D5{pb:Nat->Nat}{n:Nat}{x y:TV}{r:Value}(h:mX n x=some y)(j:TR M pb x r): ∃a,r= .pointer (some a)/\TR M pb y (.pointer (some (a.add n))):=by
 unfold mX at h;split at h
 ·simp at h;subst h;exact⟨_,j,by simp [TR,dG]⟩
 ·simp at h;subst h
  cases j with|ptr m=>exact⟨_,rfl,by simpa [TR,dG]using VR.ptr m⟩
 ·simp at h;subst h
  cases j with|vref rv g p l=>exact⟨_,rfl,by simpa [TR,dG,EV]using VR.vref rv g p l⟩
 ·simp at h
end
section
variable {P:Program} {M:Meta} (w:World)
theorem R4{tv:Option TV}{x:IV}(h:bE tv=some x):tv=some (.v x):=by
 unfold bE at h;split at h
 ·simp at h;subst h;rfl
 ·simp at h
section
variable {pb:Nat->Nat} {ev:Operand->Option TV} {ρ:Operand->Value} (hev: ∀x tv,ev x=some tv->TR M pb tv (ρ x))
include hev
theorem bD{x:Operand}{v:IV}(h:bE (ev x)=some v):VR M v (ρ x):=hev _ _ (R4 h)
theorem mT: ∀{l:List Operand}{xs:Y14},pB (l.map ev)=some xs->cO M xs (l.map ρ)
 | [],xs,h=>by simp [pB]at h;subst h;exact cO.nil M
 |x::l,xs,h=>by
  simp only [BP]at h⊢;unfold pB at h;split at h
  ·rename_i v vs h1 h2;simp at h;subst h;exact cO.cons (bD hev h1) (mT h2)
  ·simp at h
theorem xH: ∀{l:List (Nat×Operand)}{ps:List (Nat×IV)},jN (l.map fun(i,x)=>(i,ev x))=some ps->PR M ps (l.map fun(i,x)=>(i,ρ x))
 | [],ps,h=>by simp [jN]at h;subst h;trivial
 | (i,x)::l,ps,h=>by
  simp only [BP]at h⊢;unfold jN at h;split at h
  ·rename_i v vs h1 h2;simp at h;subst h;exact⟨rfl,bD hev h1,xH h2⟩
  ·simp at h
theorem xG(o:Option Operand):BR M (o.map ev) (o.map ρ):=by
 cases o with
 |none=>trivial
 |some x=>
  cases h:ev x with
  |none=>simp [BR,h]
  |some tv=>
   have:=hev _ _ h
   cases tv with
   |v y=>simpa [BR,h,TR]using this
   |l s off=>simp [BR,h]
   |u=>simp [BR,h]
end
theorem Sd(g:List Field)(h:g.all (fun x=>(P.info? x.type).isSome)=true):
  (g.mapM (m:=Sem) fun f=>do pure (f.offset,<-sizeOf f.type)).run P w= .ok (g.map fun x=>(x.offset,P.cellsOf x.type)) w:=by
 induction g with
 |nil=>simp
 |cons f g ih=>
  simp only [EL,AD]at h;obtain⟨i,l⟩:=Option.isSome_iff_exists.1 h.1;have j:=ih h.2;simp only [IF,AQ,bZ l,AI,AT,j];simp [Program.cellsOf,l]
theorem cG{t:TypeId}{i:TypeInfo}{r:Value}(h:P.info? t=some i)(g:i.zero=some r):(zeroValue t).run P w= .ok r w:=by
 simp [zeroValue,typeInfo,h,g]
theorem Hf{t:TypeId}{z:IV}{ps:List (Nat×IV)}{g:Array (Nat×Value)}(Y:dD P t=some z)(O:PR M ps g.toList){cs:Y14}
  (h:(∃l,P.underlying t=some (.struct l)/\l.toList.all (fun x=>(P.info? x.type).isSome)=true/\oK (I9 P l) (cellsOf z) ps=some cs) \/
   (∃n e sz,P.underlying t=some (.array n e)/\gP P e=some sz/\oK (fun i=>some (i*sz,sz)) (cellsOf z) ps=some cs)):
  ∃r,(Instr.build t g).run P w= .ok r w/\VR M (.agg cs) r:=by
 obtain⟨i,r,h1,h2,h3,h4⟩:=eS (M:=M) Y;have L:=kI h3 h4;rcases h with⟨l,K,R,hf⟩| ⟨n,e,sz,K,X,hf⟩
 ·obtain⟨p,q,y⟩:=xK O L hf;have V:(l.mapM (m:=Sem) fun f=>do pure (f.offset,<-sizeOf f.type)).run P w= .ok (l.map fun x=>(x.offset,P.cellsOf x.type)) w:=by
   rw [HL];simp only [Sem.run_map,Sd w l.toList R,AI]
   congr 1
   apply EN;simp
  refine⟨.agg p,?_,by simpa using iJ y⟩;have G:(fun i=>(l.map fun x=>(x.offset,P.cellsOf x.type))[i]?)=I9 P l:=by
   funext j;simp [I9]
  simp only [Instr.build,AQ,cG w h1 h2,AI,run_underlying K,V];have:Instr.fill (fun x=>(l.map fun x=>(x.offset,P.cellsOf x.type))[x]?) r.cells g.toList=some p:=by rw [G];exact q
  rw [this];rfl
 ·obtain⟨p,q,y⟩:=xK O L hf;obtain⟨j,A,D⟩:=dP X;refine⟨.agg p,?_,by simpa using iJ y⟩;simp only [Instr.build,AQ,cG w h1 h2,AI,run_underlying K,bZ A,D,q,AT]
theorem xI{t:TypeId}{f:Nat}(h:H9 P t f=some (U,i)): ∃g x,P.underlying t=some (.struct g)/\g[f]?=some x/\x.type=U/\x.offset=i:=by
 unfold H9 at h;split at h
 ·rename_i g j;obtain⟨x,h1,h2⟩:=AE.1 h;simp at h2;exact⟨g,x,j,h1,h2.1,h2.2⟩
 ·simp at h
theorem Hw: ∀{xs:Y14}{rs:List Value}{x v:IV}{r:Value},VR M x r->cO M xs rs->sU min2 x xs=some v-> ∃s,(rs.foldlM Builtin.min2 r).run P w= .ok s w/\VR M v s
 | [],rs,x,v,r,hx,hs,h=>by
  cases rs with
  |nil=>simp [sU]at h;subst h;exact⟨r,JH,hx⟩
  |cons _ _=>simp [cO]at hs
 |y::ys,rs,x,v,r,hx,hs,h=>by
  obtain⟨q,j,rfl,h1,h2⟩:=hs.uncons;unfold sU at h;split at h
  ·rename_i z g;unfold min2 at g;split at g
   ·simp at g;subst g
    cases hx;cases h1
    obtain⟨s,h3,h4⟩:=Hw (.int _ _) h2 h;exact⟨s,by simp only [List.foldlM_cons,Builtin.min2,AQ,AT,AI];exact h3,h4⟩
   ·simp at g
  ·simp at h
theorem Hv: ∀{xs:Y14}{rs:List Value}{x v:IV}{r:Value},VR M x r->cO M xs rs->sU max2 x xs=some v-> ∃s,(rs.foldlM Builtin.max2 r).run P w= .ok s w/\VR M v s
 | [],rs,x,v,r,hx,hs,h=>by
  cases rs with
  |nil=>simp [sU]at h;subst h;exact⟨r,JH,hx⟩
  |cons _ _=>simp [cO]at hs
 |y::ys,rs,x,v,r,hx,hs,h=>by
  obtain⟨q,j,rfl,h1,h2⟩:=hs.uncons;unfold sU at h;split at h
  ·rename_i z g;unfold max2 at g;split at g
   ·simp at g;subst g
    cases hx;cases h1
    obtain⟨s,h3,h4⟩:=Hv (.int _ _) h2 h;exact⟨s,by simp only [List.foldlM_cons,Builtin.max2,AQ,AT,AI];exact h3,h4⟩
   ·simp at g
  ·simp at h
theorem bY{P:Program}{s:Sem Value}{r:Value}(w w':World)(h:s.run P w= .ok r w'):((do pure (.value (<-s)):Sem Next).run P w)= .ok (.value r) w':=by
 simp only [AQ,h,AI,AT]
theorem Dh{P:Program}{s:Sem Unit}(w w':World)(h:s.run P w= .ok () w'):((do s;pure .skip:Sem Next).run P w)= .ok .skip w':=by
 simp only [AQ,h,AI,AT]
theorem oW{t:TypeId}{b:Bool}{P:Program}(h:xL P t=some b): ∃d,P.underlying t=some d/\((∃ms,d= .interface ms) ↔ b=true):=by
 unfold xL at h;split at h
 ·rename_i ms g;simp at h;subst h;exact⟨_,g,JH⟩
 ·rename_i d j g;simp at h;subst h;exact⟨d,g,by simp;intro ms e;subst e;exact j _ rfl⟩
 ·simp at h
end
end Go.Pv
end
end
