/-
  Texts of this proof, one after the other.
  Conditions: none.
-/
import Derived.WalkKit
import Derived.Orders
import Derived.Laws.StructEq
import Derived.WalkSpells
import Derived.Laws.BytesArg
import Derived.Laws.BytesString
import Derived.Deep.AppendSrc
import Derived.Laws.AppendOwn
import Derived.Scope
import Derived.LoopN
import Derived.Below
import Derived.Carry
import Derived.ChangeSame
import Derived.RowKit
import Derived.LaidLaws
import Derived.Test.YtkonebkblgemkaaGreatChecked
import Derived.Eval
import Derived.KernelRfl
import Derived.IntWalk
import Derived.Test.YtkonebkblgemkaaGreatRows
import Derived.ProofKit
import Derived.OpenShut
set_option linter.unusedVariables false
set_option linter.unusedSimpArgs false
set_option maxRecDepth 100000
set_option maxHeartbeats 4000000
noncomputable section
namespace Go
abbrev _root_.Y10:=Option Nat
abbrev _root_.Y11:=List UInt8
abbrev _root_.Y12:=List Int
abbrev _root_.Y13:=List Bool
theorem AA:type_of% @Go.IntWalk.i64_in:=@Go.IntWalk.i64_in
theorem AB:type_of% @List.getElem?_eq_getElem:=@List.getElem?_eq_getElem
theorem AC:type_of% @Option.some.injEq:=@Option.some.injEq
theorem AD:type_of% @Option.map_eq_some_iff:=@Option.map_eq_some_iff
theorem AE:type_of% @Bool.and_eq_true:=@Bool.and_eq_true
theorem AF:type_of% @Nat.le_refl:=@Nat.le_refl
theorem AG:type_of% @List.getElem_mem:=@List.getElem_mem
theorem AH:type_of% @List.getD_eq_getElem?_getD:=@List.getD_eq_getElem?_getD
theorem AI:type_of% @List.length_append:=@List.length_append
theorem AJ:type_of% @List.take_of_length_le:=@List.take_of_length_le
theorem AK:type_of% @Int.toNat_natCast:=@Int.toNat_natCast
theorem AL:type_of% @Go.Result.andThen_ok:=@Go.Result.andThen_ok
theorem AM:type_of% @Nat.mul_one:=@Nat.mul_one
theorem AN:type_of% @Bool.and_true:=@Bool.and_true
theorem AO:type_of% @List.take_succ_eq_append_getElem:=@List.take_succ_eq_append_getElem
theorem AP:type_of% @Nat.eq_of_beq_eq_true:=@Nat.eq_of_beq_eq_true
theorem AQ:type_of% @Nat.lt_succ_self:=@Nat.lt_succ_self
theorem AR:type_of% @Nat.zero_le:=@Nat.zero_le
theorem AS:type_of% @List.length_cons:=@List.length_cons
theorem AT:type_of% @Go.Sem.run_bind:=@Go.Sem.run_bind
theorem AU:type_of% @Nat.lt_of_lt_of_le:=@Nat.lt_of_lt_of_le
theorem AV:type_of% @Option.some.inj:=@Option.some.inj
theorem AW:type_of% @List.length_take:=@List.length_take
theorem AX:type_of% @List.length_map:=@List.length_map
theorem AY:type_of% @Nat.zero_add:=@Nat.zero_add
theorem AZ:type_of% @Go.Sem.run_pure:=@Go.Sem.run_pure
theorem BA:type_of% @Bool.false_eq_true:=@Bool.false_eq_true
theorem BB:type_of% @Nat.ble_eq:=@Nat.ble_eq
theorem BC:type_of% @List.getElem?_append_right:=@List.getElem?_append_right
theorem BD:type_of% @Bool.true_and:=@Bool.true_and
theorem BE:type_of% @List.cons.injEq:=@List.cons.injEq
theorem BF:type_of% @List.flatMap_cons:=@List.flatMap_cons
theorem BG:type_of% @List.mem_cons_self:=@List.mem_cons_self
theorem BJ:type_of% @List.getElem?_map:=@List.getElem?_map
theorem BK:type_of% @Nat.lt_or_ge:=@Nat.lt_or_ge
theorem BL:type_of% @List.length_nil:=@List.length_nil
theorem BM:type_of% @List.getElem?_append_left:=@List.getElem?_append_left
theorem BN:type_of% @List.map_cons:=@List.map_cons
theorem BO:type_of% @Nat.lt_succ_of_lt:=@Nat.lt_succ_of_lt
theorem BP:type_of% @List.getElem?_eq_none:=@List.getElem?_eq_none
theorem BQ:type_of% @Int.tdiv_eq_ediv_of_nonneg:=@Int.tdiv_eq_ediv_of_nonneg
theorem BS:type_of% @Bool.not_eq_true':=@Bool.not_eq_true'
theorem BT:type_of% @List.getElem?_eq_some_iff:=@List.getElem?_eq_some_iff
theorem BU:type_of% @List.mem_singleton:=@List.mem_singleton
theorem BV:type_of% @List.append_assoc:=@List.append_assoc
theorem BX:type_of% @Prod.mk.injEq:=@Prod.mk.injEq
theorem BY:type_of% @List.map_append:=@List.map_append
theorem BZ:type_of% @List.mem_append:=@List.mem_append
theorem CA:type_of% @Bool.not_eq_false':=@Bool.not_eq_false'
theorem CB:type_of% @Nat.le_of_ble_eq_true:=@Nat.le_of_ble_eq_true
theorem CC:type_of% @List.mem_cons_of_mem:=@List.mem_cons_of_mem
theorem CD:type_of% @List.mem_cons:=@List.mem_cons
theorem CE:type_of% @Nat.mul_le_mul_right:=@Nat.mul_le_mul_right
theorem CF:type_of% @List.all_eq_true:=@List.all_eq_true
theorem CG:type_of% @Nat.le_trans:=@Nat.le_trans
theorem CH:type_of% @Int.tmod_eq_emod_of_nonneg:=@Int.tmod_eq_emod_of_nonneg
theorem CI:type_of% @List.flatMap_append:=@List.flatMap_append
theorem CJ:type_of% @Option.bind_eq_some_iff:=@Option.bind_eq_some_iff
theorem CL:type_of% @Bool.or_eq_true:=@Bool.or_eq_true
theorem CM:type_of% @List.length_set:=@List.length_set
theorem CN:type_of% @Bool.false_and:=@Bool.false_and
theorem CO:type_of% @Nat.succ_pos:=@Nat.succ_pos
theorem CP:type_of% @Prod.mk.inj:=@Prod.mk.inj
theorem CQ:type_of% @List.take_append_of_le_length:=@List.take_append_of_le_length
theorem CR:type_of% @Int.emod_lt_of_pos:=@Int.emod_lt_of_pos
theorem CS:type_of% @Nat.add_mul:=@Nat.add_mul
theorem CT:type_of% @Int.emod_nonneg:=@Int.emod_nonneg
theorem CU:type_of% @List.eq_nil_of_length_eq_zero:=@List.eq_nil_of_length_eq_zero
theorem CV:type_of% @List.cons_append:=@List.cons_append
theorem CW:type_of% @Array.getElem?_setIfInBounds:=@Array.getElem?_setIfInBounds
theorem CX:type_of% @Array.getD_eq_getD_getElem?:=@Array.getD_eq_getD_getElem?
theorem CY:type_of% @Array.getElem?_toList:=@Array.getElem?_toList
theorem CZ:type_of% @List.append_nil:=@List.append_nil
theorem DA:type_of% @Bool.or_false:=@Bool.or_false
theorem DB:type_of% @List.drop_zero:=@List.drop_zero
theorem DC:type_of% @Option.map_some:=@Option.map_some
theorem DD:type_of% @Option.isSome_none:=@Option.isSome_none
theorem DE:type_of% @List.ext_getElem?:=@List.ext_getElem?
theorem DF:type_of% @List.getElem?_take_of_lt:=@List.getElem?_take_of_lt
theorem DG:type_of% @List.nil_append:=@List.nil_append
theorem DH:type_of% @List.set_eq_take_append_cons_drop:=@List.set_eq_take_append_cons_drop
theorem DI:type_of% @List.getElem?_take:=@List.getElem?_take
theorem DJ:type_of% @List.length_drop:=@List.length_drop
theorem DK:type_of% @List.mem_iff_getElem:=@List.mem_iff_getElem
theorem DL:type_of% @Nat.ne_of_gt:=@Nat.ne_of_gt
theorem DM:type_of% @Nat.le_succ:=@Nat.le_succ
theorem DN:type_of% @Nat.not_lt_zero:=@Nat.not_lt_zero
theorem DO:type_of% @List.any_append:=@List.any_append
theorem DP:type_of% @Array.getElem?_modify:=@Array.getElem?_modify
theorem DQ:type_of% @List.take_append_drop:=@List.take_append_drop
theorem DR:type_of% @List.length_replicate:=@List.length_replicate
theorem DS:type_of% @List.getElem?_drop:=@List.getElem?_drop
theorem DT:type_of% @List.map_nil:=@List.map_nil
theorem DU:type_of% @List.mem_map:=@List.mem_map
theorem DV:type_of% @List.prefix_append:=@List.prefix_append
theorem DW:type_of% @List.not_mem_nil:=@List.not_mem_nil
theorem DX:type_of% @Int.le_refl:=@Int.le_refl
theorem DY:type_of% @List.mem_of_mem_take:=@List.mem_of_mem_take
theorem DZ:type_of% @List.size_toArray:=@List.size_toArray
theorem EA:type_of% @Bool.false_or:=@Bool.false_or
theorem EB:type_of% @List.any_cons:=@List.any_cons
theorem EC:type_of% @List.take_length:=@List.take_length
theorem ED:type_of% @List.getElem?_toArray:=@List.getElem?_toArray
theorem EE:type_of% @Int.mul_le_mul_of_nonneg_right:=@Int.mul_le_mul_of_nonneg_right
theorem EF:type_of% @List.drop_succ_cons:=@List.drop_succ_cons
theorem EG:type_of% @List.mem_zipIdx_iff_getElem?:=@List.mem_zipIdx_iff_getElem?
theorem EH:type_of% @List.find?_cons:=@List.find?_cons
theorem EI:type_of% @Bool.and_self:=@Bool.and_self
theorem EJ:type_of% @Int.fdiv_eq_ediv_of_nonneg:=@Int.fdiv_eq_ediv_of_nonneg
theorem EK:type_of% @List.length_range:=@List.length_range
theorem EL:type_of% @Array.ext':=@Array.ext'
theorem EM:type_of% @List.mem_of_getElem?:=@List.mem_of_getElem?
theorem EN:type_of% @Nat.pow_le_pow_right:=@Nat.pow_le_pow_right
theorem EO:type_of% @List.mem_range:=@List.mem_range
theorem EP:type_of% @Go.IntWalk.u64_in:=@Go.IntWalk.u64_in
theorem EQ:type_of% @Bool.and_false:=@Bool.and_false
theorem ER:type_of% @Nat.succ_mul:=@Nat.succ_mul
theorem ES:type_of% @List.prefix_refl:=@List.prefix_refl
theorem ET:type_of% @Nat.ne_of_lt:=@Nat.ne_of_lt
theorem EU:type_of% @List.any_nil:=@List.any_nil
theorem EV:type_of% @Array.length_toList:=@Array.length_toList
theorem EX:type_of% @Nat.mul_le_mul_left:=@Nat.mul_le_mul_left
theorem EY:type_of% @Nat.add_assoc:=@Nat.add_assoc
theorem EZ:type_of% @List.all_cons:=@List.all_cons
theorem FA:type_of% @List.map_take:=@List.map_take
theorem FB:type_of% @List.map_drop:=@List.map_drop
theorem FC:type_of% @Bool.false_ne_true:=@Bool.false_ne_true
theorem FD:type_of% @List.getElem_cons_succ:=@List.getElem_cons_succ
theorem FE:type_of% @Nat.ne_of_beq_eq_false:=@Nat.ne_of_beq_eq_false
theorem FG:type_of% @Int.mul_le_mul_of_nonneg_left:=@Int.mul_le_mul_of_nonneg_left
theorem FH:type_of% @Array.size_append:=@Array.size_append
theorem FI:type_of% @List.find?_append:=@List.find?_append
theorem FJ:type_of% @Bool.not_false:=@Bool.not_false
theorem FK:type_of% @Nat.zero_mul:=@Nat.zero_mul
theorem FL:type_of% @Int.lt_or_le:=@Int.lt_or_le
theorem FM:type_of% @Bool.true_or:=@Bool.true_or
theorem FO:type_of% @List.take_append:=@List.take_append
theorem FP:type_of% @Option.getD_some:=@Option.getD_some
theorem FQ:type_of% @Int.emod_emod_of_dvd:=@Int.emod_emod_of_dvd
theorem FS:type_of% @Array.getElem?_push:=@Array.getElem?_push
theorem FT:type_of% @List.map_congr_left:=@List.map_congr_left
theorem FU:type_of% @List.getElem?_range:=@List.getElem?_range
theorem FW:type_of% @List.replicate_succ:=@List.replicate_succ
theorem FX:type_of% @Int.toNat_of_nonneg:=@Int.toNat_of_nonneg
theorem FY:type_of% @List.extract_eq_take_drop:=@List.extract_eq_take_drop
theorem FZ:type_of% @Nat.min_eq_left:=@Nat.min_eq_left
theorem GA:type_of% @Nat.log2_eq_iff:=@Nat.log2_eq_iff
theorem GC:type_of% @Bool.eq_iff_iff:=@Bool.eq_iff_iff
theorem GD:type_of% @List.mem_filterMap:=@List.mem_filterMap
theorem GE:type_of% @Nat.eq_zero_or_pos:=@Nat.eq_zero_or_pos
theorem GG:type_of% @Int.mul_comm:=@Int.mul_comm
theorem GH:type_of% @Bool.or_true:=@Bool.or_true
theorem GI:type_of% @Nat.testBit_or:=@Nat.testBit_or
theorem GJ:type_of% @List.getElem?_cons_succ:=@List.getElem?_cons_succ
theorem GK:type_of% @Nat.add_sub_cancel_left:=@Nat.add_sub_cancel_left
theorem GM:type_of% @List.getElem_drop:=@List.getElem_drop
theorem GO:type_of% @List.getElem_take:=@List.getElem_take
theorem GP:type_of% @List.flatten_cons:=@List.flatten_cons
theorem GQ:type_of% @List.foldl_append:=@List.foldl_append
theorem GS:type_of% @List.getElem_cons_zero:=@List.getElem_cons_zero
theorem GU:type_of% @List.drop_of_length_le:=@List.drop_of_length_le
theorem GV:type_of% @Nat.le_of_succ_le_succ:=@Nat.le_of_succ_le_succ
theorem GW:type_of% @Bool.not_true:=@Bool.not_true
theorem GX:type_of% @Array.all_eq_true_iff_forall_mem:=@Array.all_eq_true_iff_forall_mem
theorem GY:type_of% @Nat.le_max_right:=@Nat.le_max_right
theorem GZ:type_of% @List.take_prefix:=@List.take_prefix
theorem HA:type_of% @Nat.div_lt_iff_lt_mul:=@Nat.div_lt_iff_lt_mul
theorem HB:type_of% @List.singleton_append:=@List.singleton_append
theorem HC:type_of% @Nat.add_zero:=@Nat.add_zero
theorem HD:type_of% @Nat.le_of_eq:=@Nat.le_of_eq
theorem HE:type_of% @Nat.and_two_pow_sub_one_eq_mod:=@Nat.and_two_pow_sub_one_eq_mod
theorem HG:type_of% @Int.mul_le_mul_of_nonpos_right:=@Int.mul_le_mul_of_nonpos_right
theorem HH:type_of% @Int.tmod_nonneg:=@Int.tmod_nonneg
theorem HI:type_of% @List.replicate_succ':=@List.replicate_succ'
theorem HJ:type_of% @List.getElem?_replicate_of_lt:=@List.getElem?_replicate_of_lt
theorem HK:type_of% @List.getElem_of_mem:=@List.getElem_of_mem
theorem HL:type_of% @List.take_succ_cons:=@List.take_succ_cons
theorem HM:type_of% @Array.toList_append:=@Array.toList_append
theorem HN:type_of% @Array.toList_modify:=@Array.toList_modify
theorem HO:type_of% @List.take_take:=@List.take_take
theorem HP:type_of% @List.dropLast_concat_getLast:=@List.dropLast_concat_getLast
theorem HQ:type_of% @Nat.pow_pos:=@Nat.pow_pos
theorem HR:type_of% @List.set_cons_succ:=@List.set_cons_succ
theorem HS:type_of% @List.pairwise_cons:=@List.pairwise_cons
theorem HT:type_of% @Array.toList_setIfInBounds:=@Array.toList_setIfInBounds
theorem HU:type_of% @Array.getElem?_eq_some_iff:=@Array.getElem?_eq_some_iff
theorem HV:type_of% @Array.getElem?_append_left:=@Array.getElem?_append_left
theorem HW:type_of% @Nat.le_succ_of_le:=@Nat.le_succ_of_le
theorem HX:type_of% @Nat.lt_trichotomy:=@Nat.lt_trichotomy
theorem HY:type_of% @Array.mapM_eq_mapM_toList:=@Array.mapM_eq_mapM_toList
theorem HZ:type_of% @Nat.mod_lt:=@Nat.mod_lt
theorem IA:type_of% @List.getElem_append_right:=@List.getElem_append_right
theorem IB:type_of% @Array.getElem?_eq_getElem:=@Array.getElem?_eq_getElem
theorem ID:type_of% @List.pairwise_iff_getElem:=@List.pairwise_iff_getElem
theorem IE:type_of% @List.drop_append:=@List.drop_append
theorem IF:type_of% @Bool.not_eq_true:=@Bool.not_eq_true
theorem IG:type_of% @Array.toList_map:=@Array.toList_map
theorem IH:type_of% @List.getElem_append_left:=@List.getElem_append_left
theorem II:type_of% @List.map_toArray:=@List.map_toArray
theorem IJ:type_of% @Array.getElem?_replicate:=@Array.getElem?_replicate
theorem IK:type_of% @List.length_filterMap_le:=@List.length_filterMap_le
theorem IM:type_of% @Nat.sub_zero:=@Nat.sub_zero
theorem IN:type_of% @Nat.mul_comm:=@Nat.mul_comm
theorem IP:type_of% @List.flatMap_nil:=@List.flatMap_nil
theorem IQ:type_of% @List.any_eq_true:=@List.any_eq_true
theorem IR:type_of% @Int.dvd_refl:=@Int.dvd_refl
theorem IS:type_of% @Bool.not_not:=@Bool.not_not
theorem IT:type_of% @List.length_eq_zero_iff:=@List.length_eq_zero_iff
theorem IU:type_of% @List.getElem?_replicate:=@List.getElem?_replicate
theorem IW:type_of% @List.foldl_cons:=@List.foldl_cons
theorem IX:type_of% @Option.map_none:=@Option.map_none
theorem IY:type_of% @Nat.le_max_left:=@Nat.le_max_left
theorem IZ:type_of% @Int.ediv_nonneg:=@Int.ediv_nonneg
theorem JA:type_of% @Int.natAbs_tmod:=@Int.natAbs_tmod
theorem JB:type_of% @Array.getElem?_eq_none:=@Array.getElem?_eq_none
theorem JC:type_of% @Nat.mul_le_mul:=@Nat.mul_le_mul
theorem JD:type_of% @List.mapM_cons:=@List.mapM_cons
theorem JE:type_of% @Int.mul_tdiv_add_tmod:=@Int.mul_tdiv_add_tmod
theorem JF:type_of% @Nat.le_div_iff_mul_le:=@Nat.le_div_iff_mul_le
theorem JG:type_of% @Int.le_ediv_of_mul_le:=@Int.le_ediv_of_mul_le
theorem JH:type_of% @List.getElem_set_self:=@List.getElem_set_self
theorem JI:type_of% @List.set_getElem_self:=@List.set_getElem_self
theorem JJ:type_of% @List.pairwise_append:=@List.pairwise_append
theorem JK:type_of% @List.mem_of_mem_drop:=@List.mem_of_mem_drop
theorem JL:type_of% @List.sum_cons:=@List.sum_cons
theorem JM:type_of% @List.getElem_append:=@List.getElem_append
theorem JN:type_of% @List.getD_cons_zero:=@List.getD_cons_zero
theorem JP:type_of% @List.getD_cons_succ:=@List.getD_cons_succ
theorem JQ:type_of% @List.take_set_of_le:=@List.take_set_of_le
theorem JR:type_of% @Nat.beq_refl:=@Nat.beq_refl
theorem JS:type_of% @Nat.add_comm:=@Nat.add_comm
theorem JT:type_of% @Int.neg_tdiv:=@Int.neg_tdiv
theorem JU:type_of% @Nat.sub_self:=@Nat.sub_self
theorem JV:type_of% @List.map_singleton:=@List.map_singleton
theorem JW:type_of% @Nat.pos_of_ne_zero:=@Nat.pos_of_ne_zero
theorem JX:type_of% @Nat.mul_pos:=@Nat.mul_pos
theorem JY:type_of% @Int.pow_pos:=@Int.pow_pos
end Go
theorem Go.JZ{p:Prop}(h:p:=by omega):p:=h
theorem Go.KA{p:Prop}(h:p:=by decide):p:=h
theorem Go.KB{p:Prop}(h:p:=by simp):p:=h
theorem Go.KC{p:Prop}(h:p:=by exact Nat.le_of_ble_eq_true rfl):p:=h
theorem Go.KD{p:Prop}(h:p:=by first|rfl|exact True.intro):p:=h
theorem Go.KE{p:Prop}(h:p:=by dsimp only;omega):p:=h
variable{i j m b:Nat}{x y z u v:Int}{K L:Y12}{V W:List Go.Value}{T U:Go.TypeId}{o:Bool}{X Y:Go.Value}{r:Y11}{O:Go.Oper}{N:Y10}{H:Array Go.Value}
section
namespace Go.Pv
inductive IV where
 |bool (b:Bool)
 |int (k:IntKind) (n:Int)
 |str (s:Y11)
 |nilptr
 |ptr (id off:Nat)
 |vref (cs:List IV) (off:Nat)
 |nilslice
 |hslice (id off len sz:Nat)
 |vslice (id:Y10) (e len sz:Nat) (cs:List IV)
 |nilmap
 |map (id:Nat)
 |func (fn:Fn) (first captured:List IV)
 |nilfunc
 |iface (t:TypeId) (v:IV)
 |nilIface
 |agg (cs:List IV)
 |tuple (vs:List IV)
 deriving Inhabited
abbrev _root_.Y14:=List IV
inductive TV where
 |v (x:IV)
 |l (s off:Nat)
 |u
 deriving Inhabited
inductive PT(α:Type) where
 |nil
 |node (l:PT α) (v:Option α) (r:PT α)
 deriving Inhabited
namespace PT
variable {α:Type}
def get:PT α->Nat->Option α
 |nil,_=>none
 |node l v r,k=>if k=0 then v else if k%2=1 then l.get ((k-1)/2)else r.get ((k-2)/2)
def left:PT α->PT α
 |nil=>nil
 |node l _ _=>l
def right:PT α->PT α
 |nil=>nil
 |node _ _ r=>r
def val:PT α->Option α
 |nil=>none
 |node _ v _=>v
def Mb:Nat->PT α->Nat->Option α->PT α
 |0,t,_,_=>t
 |n+1,t,k,x=>
  if k=0 then node t.left x t.right
  else if k%2=1 then node (Mb n t.left ((k-1)/2) x) t.val t.right
  else node t.left t.val (Mb n t.right ((k-2)/2) x)
def set(t:PT α)(k:Nat)(x:Option α):PT α:=Mb (k+1) t k x
def filt(f:α->Bool):PT α->PT α
 |nil=>nil
 |node l v r=>node (l.filt f) (match v with|some x=>if f x then some x else none|none=>none) (r.filt f)
end PT
inductive IObj where
 |cells (cs:Y14)
 |tip (n:Nat)
 |map (es:List (IV×IV))
 |dead
 |free
 deriving Inhabited
structure Heap where
 o:PT IObj
 next:Nat
 deriving Inhabited
def Heap.get(h:Heap)(id:Nat):IObj:=(h.o.get id).getD .dead
def Heap.set(h:Heap)(id:Nat)(x:IObj):Heap:= {h with o:=h.o.set id (some x) }
def Heap.push(h:Heap)(x:IObj):Heap:= {o:=h.o.set h.next (some x),next:=h.next+1 }
def Heap.empty:Heap:=⟨.nil,0⟩
def Heap.reserve(h:Heap):Nat->Heap
 |0=>h
 |k+1=>(h.reserve k).push .free
structure Fr where
 tm:PT TV
 lv:PT (Y14)
 deriving Inhabited
structure Env where
 P:Program
 G:Nat->Option (Y14)
 A:FuncId->Nat->Nat
 bx:FuncId->Nat->Nat
 fz:FuncId->Bool
 nf:FuncId->Bool
 iso:FuncId->Bool
 ld:FuncId->Nat->Bool:=λ_ _=>false
 ln:FuncId->Nat->Nat:=λ_ _=>0
 an:FuncId->Nat->List Nat:=λ_ _=>[]
 od:FuncId->Nat->List Nat:=λ_ _=>[]
 nr:FuncId->Bool:=λ_=>false
 fm:FuncId->Nat->Bool:=λ_ _=>false
 fd:FuncId->Bool:=λ_=>false
 le:FuncId->Bool:=λ_=>false
def isCell:IV->Bool
 | .agg _=>false
 | .tuple _=>false
 |_=>true
def uR:IV->Bool
 | .tuple _=>false
 |_=>true
def Sg:Value->Option IV
 | .bool b=>some (.bool b)
 | .int k n=>some (.int k n)
 | .string s=>some (.str s.data.toList)
 | .pointer none=>some .nilptr
 | .slice none 0 0=>some .nilslice
 | .map none=>some .nilmap
 | .nilFunc=>some .nilfunc
 | .nilIface=>some .nilIface
 |_=>none
def wH:List Value->Option (Y14)
 | []=>some []
 |v::r=>match Sg v,wH r with
  |some x,some xs=>some (x::xs)
  |_,_=>none
def ofValue:Value->Option IV
 | .agg cs=>(wH cs.toList).map .agg
 |v=>Sg v
def cellsOf:IV->Y14
 | .agg cs=>cs
 |v=>[v]
section
variable (P:Program)
def iN(t:TypeId):Y10:=(P.info? t).map (·.size)
def kL(t:TypeId):Y10:=(P.info? t).map (·.bytes)
def dA(t:TypeId):Option IV:=((P.info? t).bind (·.zero)).bind ofValue
def Dx:TypeDesc->Bool
 | .struct _=>true
 | .array _ _=>true
 |_=>false
def iL(t:TypeId):Option (Bool×Nat):=
 match P.underlying t,P.info? t with
 |some d,some i=>some (Dx d,i.size)
 |_,_=>none
def eM(t:TypeId)(cs:Y14)(g:Nat):Option IV:=
 match iL P t with
 |some (true,n)=>if g+n<=cs.length then some (.agg ((cs.drop g).take n))else none
 |some (false,_)=>cs[g]?
 |none=>none
def Pe(t:TypeId)(cs:Y14)(g:Nat)(v:IV):Option (Y14):=
 let c:=cellsOf v
 if uR v then
  match iN P t with
  |some n=>if c.length=n/\g+n<=cs.length then some (cs.take g++c++cs.drop (g+n))else none
  |none=>none
 else none
def Bm(t:TypeId)(f:Nat):Option (TypeId×Nat):=
 match P.underlying t with
 |some (.struct fs)=>(fs[f]?).map λx=>(x.type,x.offset)
 |_=>none
end
inductive CK where
 |int (k:IntKind)
 |bool
 |str
 |slc (sz:Nat)
 |any
def Qk(P:Program)(t:TypeId):CK:=match P.underlying t with
 |some (.int k)=> .int k
 |some .bool=> .bool
 |some .string=> .str
 |some (.slice e)=>match iN P e with
  |some sz=> .slc sz
  |none=> .any
 |_=> .any
def rep{α:Type} :Nat->List α->List α
 |0,_=>[]
 |n+1,l=>l++rep n l
def A6(P:Program):Nat->TypeId->List CK
 |0,_=>[]
 |n+1,t=>match P.underlying t with
  |some (.struct fs)=>fs.toList.flatMap λx=>A6 P n x.type
  |some (.array m e)=>rep m (A6 P n e)
  |_=>[Qk P t]
def W9:CK->IV->IV
 | .slc sz,.nilslice=> .vslice none 0 0 sz []
 | .slc _,.vslice _ _ len z cs=> .vslice none 0 len z cs
 |_,v=>v
def rN:List CK->Y14->Y14
 |ck::r,v::vs=>W9 ck v::rN r vs
 |_,vs=>vs
def mV(P:Program)(t:TypeId)(v:IV):IV:=match v with
 | .agg cs=> .agg (rN (A6 P 8 t) cs)
 |v=>W9 (Qk P t) v
def dS(P:Program):List TypeId->Y14->Y14
 |t::ts,v::vs=>mV P t v::dS P ts vs
 |_,vs=>vs
mutual
def aY:IV->Bool
 | .ptr _ _=>false
 | .hslice _ _ _ _=>false
 | .map _=>false
 | .vslice none _ _ _ cs=>aQ cs
 | .vslice (some _) _ _ _ _=>false
 | .func _ xs ys=>aQ xs&&aQ ys
 | .iface _ v=>aY v
 | .agg cs=>aQ cs
 | .tuple cs=>aQ cs
 | .vref cs _=>aQ cs
 |_=>true
def aQ:Y14->Bool
 | []=>true
 |v::r=>aY v&&aQ r
end
def spl(cells:Y14)(g:Nat)(c:Y14):Y14:=cells.take g++c++cells.drop (g+c.length)
def qW(g:Nat->Option (Nat×Nat))(cells:Y14):List (Nat×IV)->Option (Y14)
 | []=>some cells
 | (i,v)::r=>
  match g i with
  |none=>none
  |some (off,n)=>if(cellsOf v).length=n/\off+n<=cells.length/\uR v=true then qW g (spl cells off (cellsOf v)) r else none
def Bv(P:Program)(g:Array Field)(i:Nat):Option (Nat×Nat):=(g[i]?).map λx=>(x.offset,P.cellsOf x.type)
def fY(n:Nat)(z:Y14):Y14:=
 match n with
 |0=>[]
 |n+1=>z++fY n z
def fM(k:IntKind)(a b:Int):Int:=k.wrap (BitVec.ofInt k.bits a&&&BitVec.ofInt k.bits b).toNat
def e7O(k:IntKind)(a b:Int):Int:=k.wrap (BitVec.ofInt k.bits a|||BitVec.ofInt k.bits b).toNat
def A4(k:IntKind)(a b:Int):Int:=k.wrap (BitVec.ofInt k.bits a^^^BitVec.ofInt k.bits b).toNat
def b4T(k:IntKind)(a b:Int):Int:=k.wrap (BitVec.ofInt k.bits a&&& ~~~ BitVec.ofInt k.bits b).toNat
def wG(op:BinOp)(k:IntKind)(a b:Int):Option IV:=
 match op with
 | .add=>some (.int k (k.wrap (a+b)))
 | .sub=>some (.int k (k.wrap (a-b)))
 | .mul=>some (.int k (k.wrap (a*b)))
 | .quo=>if b=0 then none else some (.int k (k.wrap (a.tdiv b)))
 | .rem=>if b=0 then none else some (.int k (a.tmod b))
 | .and=>some (.int k (fM k a b))
 | .or=>some (.int k (e7O k a b))
 | .xor=>some (.int k (A4 k a b))
 | .andNot=>some (.int k (b4T k a b))
 | .eql=>some (.bool (a==b))
 | .neq=>some (.bool (a !=b))
 | .lss=>some (.bool (a<b))
 | .leq=>some (.bool (a<=b))
 | .gtr=>some (.bool (a>b))
 | .geq=>some (.bool (a>=b))
 |_=>none
def sM(op:BinOp)(k:IntKind)(a b:Int):Option IV:=
 if b<0 then none
 else match op with
  | .shl=>some (.int k (k.wrap (a*2^ (min b.toNat k.bits))))
  | .shr=>some (.int k (a.fdiv (2^ (min b.toNat k.bits))))
  |_=>none
def Gb(op:BinOp)(x y:Y11):Option IV:=
 match op with
 | .add=>if((x.length+y.length:Nat):Int)>9223372036854775807 then none else some (.str (x++y))
 | .eql=>some (.bool (x==y))
 | .neq=>some (.bool (!(x==y)))
 | .lss=>some (.bool (Op.bytesLess x y))
 | .leq=>some (.bool (Op.bytesLess x y||x==y))
 | .gtr=>some (.bool (!(Op.bytesLess x y||x==y)))
 | .geq=>some (.bool (!Op.bytesLess x y))
 |_=>none
def dD:TypeDesc->IV->IV->Option Bool
 | .bool,.bool a,.bool b=>some (a==b)
 | .int _,.int k a,.int k' b=>if k=k' then some (a==b)else none
 | .string,.str a,.str b=>some (a==b)
 |_,_,_=>none
section
variable (P:Program)
def mO:List Field->Y14->Y14->Option Bool
 | [],_,_=>some true
 |f::fs,xs,ys=>
  if f.name == "_" then none else
  match P.underlying f.type,xs[f.offset]?,ys[f.offset]? with
  |some d,some x,some y=>match dD d x y with
   |some true=>mO fs xs ys
   |some false=>some false
   |none=>none
  |_,_,_=>none
def nM:List Field->Y14->Y14->Option Bool
 | [],_,_=>some true
 |f::fs,xs,ys=>
  if f.name == "_" then none else
  match P.underlying f.type with
  |some (.struct gs)=>match eM P f.type xs f.offset,eM P f.type ys f.offset with
   |some (.agg us),some (.agg vs)=>if P.stoodInHeld f.type then none else match mO P gs.toList us vs with
    |some true=>nM fs xs ys
    |some false=>some false
    |none=>none
   |_,_=>none
  |some d=>match xs[f.offset]?,ys[f.offset]? with
   |some x,some y=>match dD d x y with
    |some true=>nM fs xs ys
    |some false=>some false
    |none=>none
   |_,_=>none
  |none=>none
def b1A(c:Bool)(t:TypeId)(x y:IV):Option Bool:=
 match P.underlying t with
 |some (.struct fs)=>
  match x,y with
  | .agg xs,.agg ys=>if P.stoodInHeld t||P.eqGuardType P.depth t then none else nM P fs.toList xs ys
  |_,_=>none
 |some (.pointer _)=>
  match x,y with
  | .nilptr,.nilptr=>some true
  | .nilptr,.ptr _ _| .nilptr,.vref _ _| .ptr _ _,.nilptr| .vref _ _,.nilptr=>some false
  |_,_=>none
 |some (.interface _)=>
  match x,y with
  | .nilIface,.nilIface=>if c then some true else none
  | .nilIface,.iface _ _| .iface _ _,.nilIface=>some false
  |_,_=>none
 |some (.slice _)=>
  match x,y with
  | .nilslice,.nilslice=>some true
  | .nilslice,.hslice .. | .hslice ..,.nilslice=>some false
  | .nilslice,.vslice id e len _ _=>if id.isSome|| (e==1)||decide (0<len)then some false else none
  | .vslice id e len _ _,.nilslice=>if id.isSome|| (e==1)||decide (0<len)then some false else none
  |_,_=>none
 |some (.map _ _)=>
  match x,y with
  | .nilmap,.nilmap=>some true
  | .nilmap,.map _| .map _,.nilmap=>some false
  |_,_=>none
 |some (.func _ _ _)=>
  match x,y with
  | .nilfunc,.nilfunc=>some true
  | .nilfunc,.func .. | .func ..,.nilfunc=>some false
  |_,_=>none
 |some d=>dD d x y
 |none=>none
def qV(op:BinOp)(c:Bool)(t:TypeId)(x y:IV):Option IV:=
 match x,y with
 | .int k a,.int k' b=>
  match op with
  | .shl=>sM .shl k a b
  | .shr=>sM .shr k a b
  |op=>if k=k' then wG op k a b else none
 | .str a,.str b=>Gb op a b
 |x,y=>
  match op with
  | .eql=>(b1A P c t x y).map .bool
  | .neq=>(b1A P c t x y).map λb=> .bool (!b)
  |_=>none
def e3Z(op:UnOp)(x:IV):Option IV:=
 match op,x with
 | .neg,.int k n=>some (.int k (k.wrap (0-n)))
 | .xor,.int k n=>wG .xor k (if k.signed then-1 else k.max) n
 | .not,.bool b=>some (.bool (!b))
 |_,_=>none
def oN:Y14->Option (Y11)
 | []=>some []
 | .int .u8 n::r=>(oN r).map (UInt8.ofNat n.toNat:: ·)
 |_=>none
def Ql(s d:TypeId)(x:IV):Option IV:=
 match P.underlying s,P.underlying d with
 |some ds,some dd=>
  match dd,x with
  | .int k,.int _ n=>some (.int k (k.wrap n))
  | .string,.str b=>some (.str b)
  | .string,x=>
   match ds with
   | .slice e=>match P.underlying e with
    |some (.int .u8)=>match x with
     | .nilslice=>some (.str [])
     | .vslice _ _ _ 1 cs=>(oN cs).map .str
     |_=>none
    |_=>none
   |_=>none
  |_,_=>none
 |_,_=>none
def Lw:Option TV->Option Int
 |some (.v (.int _ n))=>some n
 |_=>none
def jJ(len:Nat)(lo g:Option (Option TV)):Option (Nat×Nat):=
 let h:=match g with
  |none=>some (len:Int)
  |some x=>Lw x
 let l:=match lo with
  |none=>some (0:Int)
  |some x=>Lw x
 match l,h with
 |some l,some h=>if 0<=l/\l<=h/\h<=len then some (l.toNat,h.toNat)else none
 |_,_=>none
def uX(t:TypeId)(x:IV)(lo g:Option (Option TV)):Option IV:=
 match P.underlying t with
 |some .string=>match x with
  | .str s=>(jJ s.length lo g).map λ(l,h)=> .str ((s.drop l).take (h-l))
  |_=>none
 |some (.slice e)=>match iN P e with
  |some sz=>match x with
   | .nilslice=>(jJ 0 lo g).map λ_=> .nilslice
   | .hslice id off len z=>if z=sz then(jJ len lo g).map λ(l,h)=> .hslice id (off+l*sz) (h-l) sz else none
   | .vslice id e len z cs=>if z=sz then(jJ len lo g).map λ(l,h)=> .vslice id (e- (len-h)*sz) (h-l) sz ((cs.drop (l*sz)).take ((h-l)*sz))else none
   |_=>none
  |none=>none
 |_=>none
end
section
variable (E:Env)
def bC(i:Nat->Option TV):Operand->Option TV
 | .tmp t=>i t
 | .const v=>(ofValue v).map .v
 | .global g=>(E.G g).map λcs=> .v (.vref cs 0)
 | .func f=>some (.v (.func (.func f) [] []))
end
def bH:Option TV->Option IV
 |some (.v x)=>some x
 |_=>none
def rQ:List (Option TV)->Option (Y14)
 | []=>some []
 |x::r=>match bH x,rQ r with
  |some v,some vs=>some (v::vs)
  |_,_=>none
def kY:List (Nat×Option TV)->Option (List (Nat×IV))
 | []=>some []
 | (i,x)::r=>match bH x,kY r with
  |some v,some vs=>some ((i,v)::vs)
  |_,_=>none
def nH:Operand->Bool
 | .const _=>true
 |_=>false
def min2:IV->IV->Option IV
 | .int k x,.int _ y=>some (.int k (if y<x then y else x))
 |_,_=>none
def max2:IV->IV->Option IV
 | .int k x,.int _ y=>some (.int k (if y>x then y else x))
 |_,_=>none
def F8(f:IV->IV->Option IV):IV->Y14->Option IV
 |x,[]=>some x
 |x,y::r=>match f x y with
  |some z=>F8 f z r
  |none=>none
def pC(n:Nat):TV->Option TV
 | .l s off=>some (.l s (off+n))
 | .v (.ptr id off)=>some (.v (.ptr id (off+n)))
 | .v (.vref cs off)=>some (.v (.vref cs (off+n)))
 |_=>none
def G5(P:Program)(t:TypeId):Option Bool:=
 match P.underlying t with
 |some (.interface _)=>some true
 |some _=>some false
 |none=>none
section
variable (E:Env) (f:FuncId) (o:Oper) (ev:Operand->Option TV) (lv:Nat->Option (Y14)) (h:Heap)
def e1E:Bool:=match o.dst with
 |some d=>E.fm f d
 |none=>false
def eQ:Option (TV×Option (Y14)):=
 match o.op with
 | .move x=>if e1E E f o=true then none else(ev x).map (·,none)
 | .assign x=>(ev x).map (·,none)
 | .pick c a b=>match ev c with
  |some (.v (.bool true))=>(ev a).map (·,none)
  |some (.v (.bool false))=>(ev b).map (·,none)
  |_=>none
 | .alloc t=>match o.dst with
  |some d=>if E.bx f d=0 then(dA E.P t).map λz=>(.l d 0,some (cellsOf z))else none
  |none=>none
 | .box _ x=>match o.dst,bH (ev x)with
  |some d,some v=>if E.bx f d=0/\uR v=true then some (.l d 0,some (cellsOf v))else none
  |_,_=>none
 | .build t parts=>
  match dA E.P t,kY (parts.toList.map λ(i,x)=>(i,ev x))with
  |some z,some ps=>
   match E.P.underlying t with
   |some (.struct fs)=>if fs.toList.all (λx=>(E.P.info? x.type).isSome)then(qW (Bv E.P fs) (cellsOf z) ps).map λcs=>(.v (.agg cs),none)else none
   |some (.array _ e)=>match iN E.P e with
    |some n=>(qW (λi=>some (i*n,n)) (cellsOf z) ps).map λcs=>(.v (.agg cs),none)
    |none=>none
   |_=>none
  |_,_=>none
 | .buildSlice t n parts=>match E.P.underlying t,o.dst with
  |some (.slice e),some d=>if E.A f d=0 then match iN E.P e,dA E.P e,kY (parts.toList.map λ(i,x)=>(i,ev x))with
   |some (sz+1),some z,some ps=>if n*(sz+1)<=16777216/\(cellsOf z).length=sz+1 then
    (qW (λi=>some (i*(sz+1),sz+1)) (fY n (cellsOf z)) ps).map λcs=>(.v (.vslice none 1 n (sz+1) (match E.nf f with|true=>rN (rep n (A6 E.P 8 e)) cs|false=>cs)),none)
    else none
   |_,_,_=>none
   else none
  |_,_=>none
 | .load t a=>match ev a with
  |some (.v (.vref cs off))=>(eM E.P t cs off).map λv=>(.v v,none)
  |_=>none
 | .nilCheck x=>match ev x with
  |some (.l s off)=>some (.l s off,none)
  |some (.v (.ptr id off))=>some (.v (.ptr id off),none)
  |some (.v (.vref cs off))=>some (.v (.vref cs off),none)
  |some (.v (.func (.func g) a b))=>some (.v (.func (.func g) a b),none)
  |some (.v (.iface t v))=>some (.v (.iface t v),none)
  |_=>none
 | .binOp op t x y _=>match bH (ev x),bH (ev y)with
  |some a,some b=>(qV E.P op (nH x||nH y) t a b).map λv=>(.v v,none)
  |_,_=>none
 | .unOp op _ x=>match bH (ev x)with
  |some a=>(e3Z op a).map λv=>(.v v,none)
  |none=>none
 | .convert s d x=>match bH (ev x)with
  |some a=>(Ql E.P s d a).map λv=>(.v v,none)
  |none=>none
 | .makeInterface t x=>match G5 E.P t,bH (ev x)with
  |some false,some a=>some (.v (.iface t a),none)
  |_,_=>none
 | .makeFunc fn a b=>match rQ (a.toList.map ev),rQ (b.toList.map ev)with
  |some xs,some ys=>some (.v (.func fn xs ys),none)
  |_,_=>none
 | .slice t x lo hi mx=>match mx,bH (ev x)with
  |none,some a=>(uX E.P t a (lo.map ev) (hi.map ev)).map λv=>(.v v,none)
  |_,_=>none
 | .fieldAddr t x i=>match Bm E.P t i,ev x with
  |some (ft,off),some a=>match iN E.P ft with
   |some (_+1)=>(pC off a).map (·,none)
   |_=>none
  |_,_=>none
 | .field t x i=>match Bm E.P t i,bH (ev x)with
  |some (ft,off),some (.agg cs)=>(eM E.P ft cs off).map λv=>(.v v,none)
  |_,_=>none
 | .indexAddr t x ix=>match Lw (ev ix),E.P.underlying t with
  |some i,some (.array n e)=>match iN E.P e,ev x with
   |some sz,some a=>if 0<=i/\i<n then(pC (i.toNat*sz) a).map (·,none)else none
   |_,_=>none
  |some i,some (.slice e)=>match iN E.P e,bH (ev x)with
   |some sz,some (.vslice _ _ len z cs)=>if 0<=i/\i<len/\z=sz then some (.v (.vref cs (i.toNat*sz)),none)else none
   |some sz,some (.hslice id off len z)=>if 0<=i/\i<len/\z=sz then some (.v (.ptr id (off+i.toNat*sz)),none)else none
   |_,_=>none
  |_,_=>none
 | .index t x ix=>match Lw (ev ix),E.P.underlying t,bH (ev x)with
  |some i,some (.array n e),some (.agg cs)=>match iN E.P e with
   |some sz=>if 0<=i/\i<n then(eM E.P e cs (i.toNat*sz)).map λv=>(.v v,none)else none
   |none=>none
  |some i,some .string,some (.str s)=>if 0<=i then(s[i.toNat]?).map λb=>(.v (.int .u8 b.toNat),none)else none
  |_,_,_=>none
 | .extract x i=>match bH (ev x)with
  |some (.tuple vs)=>(vs[i]?).map λv=>(.v v,none)
  |_=>none
 | .typeAssert x _ t ok=>match G5 E.P t,bH (ev x)with
  |some false,some (.iface u v)=>
   if u=t then(if ok then some (.v (.tuple [v,.bool true]),none)else some (.v v,none))
   else if ok then(dA E.P t).map λz=>(.v (.tuple [z,.bool false]),none)else none
  |some false,some .nilIface=>if ok then(dA E.P t).map λz=>(.v (.tuple [z,.bool false]),none)else none
  |_,_=>none
 | .call {callee:= .builtin .len,args,argTypes } =>
  match argTypes[0]?,(args[0]?).bind λx=>bH (ev x)with
  |some t,some x=>
   match E.P.underlying t,x with
   |some .string,.str s=>some (.v (.int .i64 s.length),none)
   |some (.slice _),.nilslice=>some (.v (.int .i64 0),none)
   |some (.slice _),.hslice _ _ len _=>some (.v (.int .i64 len),none)
   |some (.slice _),.vslice _ _ len _ _=>some (.v (.int .i64 len),none)
   |some (.map _ _),.nilmap=>some (.v (.int .i64 0),none)
   |some (.array n _),_=>some (.v (.int .i64 n),none)
   |_,_=>none
  |_,_=>none
 | .call {callee:= .builtin .min,args,.. } =>match rQ (args.toList.map ev)with
  |some (x::r)=>(F8 min2 x r).map λv=>(.v v,none)
  |_=>none
 | .call {callee:= .builtin .max,args,.. } =>match rQ (args.toList.map ev)with
  |some (x::r)=>(F8 max2 x r).map λv=>(.v v,none)
  |_=>none
 |_=>none
def gI:Option TV:=
 match o.op with
 | .load t a=>match ev a with
  |some (.l s off)=>match lv s with
   |some cs=>(eM E.P t cs off).map .v
   |none=>none
  |_=>none
 |_=>none
def iX:Option (Nat×Y14):=
 match o.op with
 | .store t a x=>match ev a,bH (ev x)with
  |some (.l s off),some v=>match lv s with
   |some cs=>(Pe E.P t cs off v).map (s,·)
   |none=>none
  |_,_=>none
 |_=>none
def qX:TypeDesc->IV->Bool
 | .bool,.bool _=>true
 | .int _,.int _ _=>true
 | .string,.str _=>true
 |_,_=>false
def iG(d:TypeDesc)(k:IV):List (IV×IV)->Option (Option IV)
 | []=>some none
 | (x,v)::r=>match dD d k x with
  |some true=>some (some v)
  |some false=>iG d k r
  |none=>none
def sO(d:TypeDesc)(k v:IV):List (IV×IV)->Option (List (IV×IV))
 | []=>some [(k,v)]
 | (x,u)::r=>match dD d k x with
  |some true=>some ((k,v)::r)
  |some false=>(sO d k v r).map ((x,u):: ·)
  |none=>none
def nQ(d:TypeDesc)(k:IV):List (IV×IV)->Nat
 | []=>0
 | (x,_)::r=>match dD d k x with
  |some true=>0
  |_=>nQ d k r+1
def rA(v:IV):Nat->List (IV×IV)->List (IV×IV)
 |_,[]=>[]
 |0,(k,_)::r=>(k,v)::r
 |n+1,e::r=>e::rA v n r
def Mx(d:TypeDesc)(k z:IV)(g:List (IV×IV)):Option (IV×Nat×List (IV×IV)):=match iG d k g with
 |some (some v)=>(sO d k v g).map λes'=>(v,nQ d k g,es')
 |some none=>some (z,g.length,g++ [(k,z)])
 |none=>none
def dR:Option TV:=
 match o.op with
 | .load t a=>match ev a with
  |some (.v (.ptr id off))=>match h.get id with
   | .cells cs=>(eM E.P t cs off).map .v
   |_=>none
  |_=>none
 | .convert s d x=>match E.P.underlying s,E.P.underlying d,bH (ev x)with
  |some (.slice e),some .string,some (.hslice id off len 1)=>match E.P.underlying e,h.get id with
   |some (.int .u8),.cells cs=>if off+len<=cs.length then(oN ((cs.drop off).take len)).map λb=> .v (.str b)else none
   |_,_=>none
  |_,_,_=>none
 | .slice t x lo hi mx=>match mx,E.P.underlying t,ev x with
  |none,some (.array n e),some (.v (.ptr id off))=>match h.get id,iN E.P e with
   | .cells cs,some (sz+1)=>if off+n*(sz+1)<=cs.length then(jJ n (lo.map ev) (hi.map ev)).map λ(l,k)=> .v (.hslice id (off+l*(sz+1)) (k-l) (sz+1))else none
   |_,_=>none
  |_,_,_=>none
 | .lookup t x k ok=>match E.P.underlying t,bH (ev x),bH (ev k)with
  |some (.map kt et),some m,some key=>
   match E.P.underlying kt,(match m with| .nilmap=>some []| .map id=>(match h.get id with| .map es=>some es|_=>none)|_=>none)with
   |some d,some es=>if qX d key then match iG d key es with
    |some (some v)=>some (.v (if ok then .tuple [v,.bool true]else v))
    |some none=>(dA E.P et).map λz=> .v (if ok then .tuple [z,.bool false]else z)
    |none=>none
    else none
   |_,_=>none
  |_,_,_=>none
 | .call {callee:= .builtin .len,args,argTypes } =>
  match argTypes[0]?,(args[0]?).bind λx=>bH (ev x)with
  |some t,some (.map id)=>match E.P.underlying t,h.get id with
   |some (.map _ _),.map es=>some (.v (.int .i64 es.length))
   |_,_=>none
  |_,_=>none
 |_=>none
def gO(sz:Nat)(x:IV):Option (Nat×Y14):=
 match x with
 | .nilslice=>some (0,[])
 | .vslice _ _ len z cs=>if z=sz then some (len,cs)else none
 | .hslice id off len z=>if z=sz then(match h.get id with
  | .cells cs=>if off+len*sz<=cs.length then some (len,(cs.drop off).take (len*sz))else none
  |_=>none)else none
 | .str s=>if sz=1 then some (s.length,s.map λb=> .int .u8 b.toNat)else none
 |_=>none
def newRow(g len sz:Nat)(cs:Y14):IV×Heap:=
 if g=0 then(.vslice (some h.next) (len*sz) len sz cs,h.push (.tip (len*sz)))
 else(.hslice h.next 0 len sz,h.push (.cells cs))
def nL(g sz bytes:Nat)(s x:IV):Option (IV×Heap):=
 match gO h sz x with
 |some (n,xs)=>
  if n=0 then(match s with
   | .nilslice=>some (.nilslice,h)
   | .vslice id e len z cs=>if z=sz then some (.vslice id e len z cs,h)else none
   | .hslice id off len z=>if z=sz then some (.hslice id off len z,h)else none
   |_=>none)
  else match s with
   | .nilslice=>if n*bytes<=140737488355328 then some (newRow h g n sz xs)else none
   | .vslice none 1 len z cs=>if z=sz/\(len+n)*bytes<=140737488355328 then some (newRow h g (len+n) sz (cs++xs))else none
   | .vslice (some id) e len z cs=>
    match h.get id with
    | .tip m=>if m=e/\z=sz/\(len+n)*bytes<=140737488355328 then some (.vslice (some id) (e+n*sz) (len+n) sz (cs++xs),h.set id (.tip (e+n*sz)))else none
    |_=>none
   | .hslice id off len z=>
    match h.get id with
    | .cells cs=>if off=0/\z=sz/\len*sz<=cs.length/\(len+n)*bytes<=140737488355328 then some (.hslice h.next 0 (len+n) sz,(h.set id .dead).push (.cells (cs.take (len*sz)++xs)))else none
    |_=>none
   |_=>none
 |none=>none
def oS:TypeDesc->Bool
 | .slice _=>true
 | .string=>true
 |_=>false
def iM:Option (Option TV×Heap):=
 match o.op with
 | .move x=>if e1E E f o=true then match bH (ev x)with
   |some (.hslice id off len sz)=>match h.get id with
    | .cells cs=>if 0<sz/\off+len*sz<=cs.length then some (some (.v (.vslice none 0 len sz ((cs.drop off).take (len*sz)))),h.set id .dead)else none
    |_=>none
   |_=>none
  else none
 | .alloc t=>match o.dst with
  |some d=>if E.bx f d=0 then none else(dA E.P t).map λz=>(some (.v (.ptr h.next 0)),h.push (.cells (cellsOf z)))
  |none=>none
 | .box _ x=>match o.dst,bH (ev x)with
  |some d,some v=>if E.bx f d=0 then none else if uR v then some (some (.v (.ptr h.next 0)),h.push (.cells (cellsOf v)))else none
  |_,_=>none
 | .buildSlice t n parts=>match E.P.underlying t,o.dst with
  |some (.slice e),some d=>if E.A f d=0 then none else match iN E.P e,dA E.P e,kY (parts.toList.map λ(i,x)=>(i,ev x))with
   |some (sz+1),some z,some ps=>if n*(sz+1)<=16777216/\(cellsOf z).length=sz+1 then
    (qW (λi=>some (i*(sz+1),sz+1)) (fY n (cellsOf z)) ps).map λcs=>let r:=newRow h (E.A f d) n (sz+1) cs; (some (.v r.1),r.2)
    else none
   |_,_,_=>none
  |_,_=>none
 | .makeSlice t l c=>match E.P.underlying t,o.dst,Lw (ev l),Lw (ev c)with
  |some (.slice e),some d,some l,some c=>match iN E.P e,kL E.P e,dA E.P e with
   |some (sz+1),some bytes,some z=>
    if 0<=l/\l<=c/\c<=9223372036854775807/\bytes*c<=140737488355328/\(cellsOf z).length=sz+1 then
     let r:=newRow h (1-E.A f d) l.toNat (sz+1) (fY l.toNat (cellsOf z));some (some (.v r.1),r.2)
    else none
   |_,_,_=>none
  |_,_,_,_=>none
 | .makeMap _ r=>match r with
  |none=>some (some (.v (.map h.next)),h.push (.map []))
  |some _=>none
 | .convert s d x=>match E.P.underlying s,E.P.underlying d,o.dst,bH (ev x)with
  |some _,some (.slice e),some dst,some (.str b)=>match E.P.underlying e with
   |some (.int .u8)=>let r:=newRow h (E.A f dst) b.length 1 (b.map λc=> .int .u8 c.toNat);some (some (.v r.1),r.2)
   |_=>none
  |_,_,_,_=>none
 | .store t a x=>match ev a,bH (ev x)with
  |some (.v (.ptr id off)),some v=>match h.get id with
   | .cells cs=>(Pe E.P t cs off v).map λcs'=>(none,h.set id (.cells cs'))
   |_=>none
  |_,_=>none
 | .mapUpdate t m k x=>match E.P.underlying t,bH (ev m),bH (ev k),bH (ev x)with
  |some (.map kt _),some (.map id),some key,some v=>match E.P.underlying kt,h.get id with
   |some d,.map es=>if qX d key then(sO d key v es).map λes'=>(none,h.set id (.map es'))else none
   |_,_=>none
  |_,_,_,_=>none
 | .mapEntry t m k=>match E.P.underlying t,bH (ev m),bH (ev k)with
  |some (.map kt et),some (.map id),some key=>match E.P.underlying kt,h.get id,dA E.P et with
   |some d,.map es,some z=>if qX d key then(Mx d key z es).map λr=>(some (.v (.tuple [r.1,.int .i64 r.2.1])),h.set id (.map r.2.2))else none
   |_,_,_=>none
  |_,_,_=>none
 | .entryStore _ m s x=>match bH (ev m),bH (ev s),bH (ev x)with
  |some (.map id),some (.int _ n),some v=>match h.get id with
   | .map es=>if 0<=n/\n<es.length then some (none,h.set id (.map (rA v n.toNat es)))else none
   |_=>none
  |_,_,_=>none
 | .call {callee:= .builtin .append,args,argTypes } =>
  match argTypes.toList,args.toList with
  | [t,u],[sx,xx]=>match bH (ev sx),bH (ev xx),E.P.underlying t,E.P.underlying u,o.dst with
   |some s,some x,some (.slice e),some du,some d=>match iN E.P e,kL E.P e,dA E.P e with
    |some (sz+1),some (bytes+1),some z=>if(cellsOf z).length=sz+1/\oS du=true then(nL h (E.A f d) (sz+1) (bytes+1) s x).map λr=>(some (.v r.1),r.2)else none
    |_,_,_=>none
   |_,_,_,_,_=>none
  |_,_=>none
 | .call {callee:= .builtin .copy,args,argTypes } =>
  match argTypes.toList,args.toList with
  |t::_,[sx,xx]=>match bH (ev sx),bH (ev xx),E.P.underlying t with
   |some (.hslice id off len z),some x,some (.slice e)=>match iN E.P e,h.get id with
    |some (sz+1),.cells cs=>match gO h (sz+1) x with
     |some (n,xs)=>if z=sz+1/\off+len*z<=cs.length then
       some (some (.v (.int .i64 ((min n len:Nat):Int))),h.set id (.cells (spl cs off (xs.take (min n len*(sz+1))))))
      else none
     |none=>none
    |_,_=>none
   |_,_,_=>none
  |_,_=>none
 |_=>none
def d1C(sz:Nat)(x:IV):Option (Nat×Y14):=
 match x with
 | .nilslice=>some (0,[])
 | .vslice _ _ len z cs=>if z=sz then some (len,cs)else none
 | .str s=>if sz=1 then some (s.length,s.map λb=> .int .u8 b.toNat)else none
 |_=>none
def D6(n g len sz:Nat)(cs:Y14):IV:=if g=0 then .vslice (some n) (len*sz) len sz cs else .hslice n 0 len sz
def uU(g len sz:Nat)(cs:Y14):IObj:=if g=0 then .tip (len*sz)else .cells cs
def Bl(n:Nat):Option (Option TV×Option IObj):=
 match o.op with
 | .alloc t=>match o.dst with
  |some d=>if E.bx f d=0 then none else(dA E.P t).map λz=>(some (.v (.ptr n 0)),some (.cells (cellsOf z)))
  |none=>none
 | .makeSlice t l c=>match E.P.underlying t,o.dst,Lw (ev l),Lw (ev c)with
  |some (.slice e),some d,some l,some c=>match iN E.P e,kL E.P e,dA E.P e with
   |some (sz+1),some bytes,some z=>
    if 0<=l/\l<=c/\c<=9223372036854775807/\bytes*c<=140737488355328/\(cellsOf z).length=sz+1/\(1-E.A f d=0->0<l.toNat)then
     some (some (.v (D6 n (1-E.A f d) l.toNat (sz+1) (fY l.toNat (cellsOf z)))),some (uU (1-E.A f d) l.toNat (sz+1) (fY l.toNat (cellsOf z))))
    else none
   |_,_,_=>none
  |_,_,_,_=>none
 | .makeMap _ r=>match r with
  |none=>some (some (.v (.map n)),some (.map []))
  |some _=>none
 | .call {callee:= .builtin .append,args,argTypes } =>
  match argTypes.toList,args.toList with
  | [t,u],[sx,xx]=>match bH (ev sx),bH (ev xx),E.P.underlying t,E.P.underlying u,o.dst with
   |some .nilslice,some x,some (.slice e),some du,some d=>match iN E.P e,kL E.P e,dA E.P e with
    |some (sz+1),some (bytes+1),some z=>if(cellsOf z).length=sz+1/\oS du=true then match d1C (sz+1) x with
      |some (k,xs)=>if k=0 then some (some (.v .nilslice),none)
       else if k*(bytes+1)<=140737488355328 then some (some (.v (D6 n (E.A f d) k (sz+1) xs)),some (uU (E.A f d) k (sz+1) xs))else none
      |none=>none
     else none
    |_,_,_=>none
   |_,_,_,_,_=>none
  |_,_=>none
 |_=>none
def mL:Y10:=match o.op with
 | .load _ a=>match ev a with
  |some (.v (.ptr id _))=>some id
  |_=>none
 | .convert _ _ x=>match bH (ev x)with
  |some (.hslice id _ _ _)=>some id
  |_=>none
 | .slice _ x _ _ _=>match ev x with
  |some (.v (.ptr id _))=>some id
  |_=>none
 | .lookup _ x _ _=>match bH (ev x)with
  |some (.map id)=>some id
  |_=>none
 | .call {callee:= .builtin .len,args,.. } =>match(args[0]?).bind λx=>bH (ev x)with
  |some (.map id)=>some id
  |_=>none
 |_=>none
def dI:Option (FuncId×Y14):=
 match o.op with
 | .call {callee:= .value x,args,.. } =>match ev x,rQ (args.toList.map ev)with
  |some (.v (.func (.func g) a b)),some xs=>some (g,a++xs++b)
  |_,_=>none
 |_=>none
end
def Fr.put(g:Fr)(d:Option Tmp)(v:Option TV):Fr:=
 match d with
 |some t=> {g with tm:=g.tm.set t v }
 |none=>g
def wL(s:Nat):TV->Bool
 | .l s' _=>s' !=s
 |_=>true
def Fr.box(g:Fr)(s:Nat)(cs:Y14):Fr:= {tm:=g.tm.filt (wL s),lv:=g.lv.set s (some cs) }
def a3R(E:Env)(f:FuncId)(o:Oper):Y10:=
 match o.op with
 | .alloc _=>match o.dst with
  |some d=>if E.bx f d=0 then some d else none
  |none=>none
 | .box _ _=>match o.dst with
  |some d=>if E.bx f d=0 then some d else none
  |none=>none
 |_=>none
def Fr.forget(g:Fr):List Nat->Fr
 | []=>g
 |s::r=>Fr.forget {tm:=g.tm.filt (wL s),lv:=g.lv.set s none } r
def Fr.start(E:Env)(f:FuncId)(ops:List Oper)(draw:Bool)(g:Fr):Fr:=if draw then g.forget (ops.filterMap (a3R E f))else g
structure Met where
 e:Nat:=0
 r:Nat:=0
 s:Nat:=0
 l:Nat:=0
 a:Nat:=0
 deriving Inhabited
inductive Cls where
 |p|l|s|r|e|b|a
 deriving DecidableEq,Inhabited
def rL(b:Bool):Cls:=match b with
 |true=> .p
 |false=> .e
def bit(i:Nat):Nat:=2^i
def Met.chk(m:Met):Cls->Nat
 | .p=>0
 | .b=>0
 | .l=>m.s
 | .s=>m.s|||m.l
 | .r=>m.e
 | .e=>m.e|||m.r|||m.a
 | .a=>m.e
def Met.add(m:Met)(c:Cls)(i:Nat):Met:=
 match c with
 | .p=>m
 | .b=>m
 | .l=> {m with l:=m.l|||bit i }
 | .s=> {m with s:=m.s|||bit i }
 | .r=> {m with r:=m.r|||bit i }
 | .e=> {m with e:=m.e|||bit i }
 | .a=> {m with a:=m.a|||bit i }
def dK(ops:List Oper)(g:Nat->Option TV)(o:Oper):Option Bool:=
 match o.guard with
 |none=>some true
 |some (j,b)=>match(ops[j]?).bind (·.dst)with
  |some d=>match g d with
   |some (.v (.bool x))=>some (x==b)
   |some .u=>some false
   |_=>none
  |none=>none
def lS(m b:Nat):Bool:=(m&&&b)==m
structure Ef where
 c:Cls
 v:Option TV
 loc:Option (Nat×Y14)
 box:Bool
 h:Heap
mutual
def a1Z:IV->IV->Bool
 | .bool a,.bool b=>a==b
 | .int k n,.int k' n'=>decide (k=k') &&n==n'
 | .str a,.str b=>a==b
 | .nilptr,.nilptr=>true
 | .ptr a b,.ptr c d=>Nat.beq a c&&Nat.beq b d
 | .nilslice,.nilslice=>true
 | .hslice a b c d,.hslice a' b' c' d'=>Nat.beq a a'&& (Nat.beq b b'&& (Nat.beq c c'&&Nat.beq d d'))
 | .vslice i e n z cs,.vslice i' e' n' z' cs'=>decide (i=i') && (Nat.beq e e'&& (Nat.beq n n'&& (Nat.beq z z'&&sD cs cs')))
 | .nilmap,.nilmap=>true
 | .map a,.map b=>Nat.beq a b
 | .nilfunc,.nilfunc=>true
 | .nilIface,.nilIface=>true
 | .agg a,.agg b=>sD a b
 | .tuple a,.tuple b=>sD a b
 | .vref a o,.vref b o'=>Nat.beq o o'&&sD a b
 | .func f a c,.func g b d=>decide (f=g) && (sD a b&&sD c d)
 | .iface t a,.iface u b=>decide (t=u) &&a1Z a b
 |_,_=>false
def sD:Y14->Y14->Bool
 | [],[]=>true
 |a::r,b::q=>a1Z a b&&sD r q
 |_,_=>false
end
def d1H:TV->TV->Bool
 | .v a,.v b=>a1Z a b
 |_,_=>false
abbrev Pd:=List (Nat×(Heap->Bool))
def a4V(m:Met)(g:Pd)(b:Nat)(e:Ef):Bool:=match e.c with
 | .e=>lS (m.e|||m.a) b&&g.all (λp=>b.testBit p.1||p.2 e.h)
 |_=>false
section
variable (E:Env) (f:FuncId) (cf:FuncId->Y14->Heap->Option (IV×Heap)) (ops:List Oper) (draw:Bool) (bef:Nat->Nat)
def eJ(o:Oper)(ev:Operand->Option TV)(lv:Nat->Option (Y14))(h:Heap):Option Ef:=
 match eQ E f o ev with
 |some (v,bx)=>match bx,o.dst with
  |some cs,some d=>if draw then(match lv d with
   |none=>some ⟨.b,some v,some (d,cs),false,h⟩
   |some _=>none)else some ⟨.p,some v,some (d,cs),true,h⟩
  |none,_=>some ⟨.p,some v,none,false,h⟩
  |_,_=>none
 |none=>
 match gI E o ev lv with
 |some v=>some ⟨.l,some v,none,false,h⟩
 |none=>
 match iX E o ev lv with
 |some (s,cs)=>some ⟨.s,none,some (s,cs),false,h⟩
 |none=>
 match dR E o ev h with
 |some v=>some ⟨.r,some v,none,false,h⟩
 |none=>
 match iM E f o ev h with
 |some (v,h')=>some ⟨.e,v,none,false,h'⟩
 |none=>
 match dI o ev with
 |some (g,xs)=>match cf g xs h with
  |some (v,h')=>some ⟨rL (E.iso g),some (.v v),none,false,h'⟩
  |none=>none
 |none=>none
def C4(o:Oper)(g:Nat->Option TV)(lv:Nat->Option (Y14))(h:Heap):Option Ef:=
 match dK ops g o with
 |none=>none
 |some false=>some ⟨.p,some .u,none,false,h⟩
 |some true=>eJ E f cf draw o (bC E g) lv h
def dJ(rs:Y10)(o:Oper)(g:Nat->Option TV)(lv:Nat->Option (Y14))(h:Heap):Option Ef:=
 match rs with
 |none=>C4 E f cf ops draw o g lv h
 |some n=>match dK ops g o with
  |none=>none
  |some false=>some ⟨.p,some .u,none,false,h⟩
  |some true=>match Bl E f o (bC E g) n with
   |some (v,none)=>some ⟨.p,v,none,false,h⟩
   |some (v,some x)=>match h.get n with
    | .free=>some ⟨.a,v,none,false,h.set n x⟩
    |_=>none
   |none=>none
def a4F:Nat->List Nat->Nat->Y10
 |_,[],_=>none
 |k,j::r,i=>match Nat.beq i j with
  |true=>some k
  |false=>a4F (k+1) r i
def Sr(g:List Nat)(rs:Nat->Y10)(m:Met)(b:Nat)(id:Y10)(c:Cls):Bool:=match c with
 | .r=>g.all λj=>b.testBit j|| (!(m.a.testBit j)|| (match rs j,id with
  |some n,some k=>!(Nat.beq n k)
  |_,_=>true))
 |_=>true
def okB(g:List Nat)(rs:Nat->Y10)(m:Met)(i:Pd)(b:Nat)(id:Y10)(e:Ef):Bool:=(lS (m.chk e.c) b||a4V m i b e) &&Sr g rs m b id e.c
def Fr.app(g:Fr)(d:Option Tmp)(e:Ef):Fr:=
 match e.loc with
 |some (s,cs)=>if e.box then(g.box s cs).put d e.v else {g.put d e.v with lv:=g.lv.set s (some cs) }
 |none=>g.put d e.v
def pL(o:Oper)(ev:Operand->Option TV)(e:Ef)(i:Nat)(g:Pd):Pd:=match e.c with
 | .r=>(i,λh2=>match dR E o ev h2,e.v with
  |some v2,some v=>d1H v2 v
  |_,_=>false)::g
 |_=>g
def pN(g:List Nat)(rs:Nat->Y10):List (Oper×Nat)->Met->Pd->Fr->Heap->Option (Fr×Heap)
 | [],_,_,fr,h=>some (fr,h)
 | (o,i)::r,m,pd,fr,h=>match dJ E f cf ops draw (rs i) o fr.tm.get fr.lv.get h with
  |some e=>if !draw||okB g rs m pd (bef i) (mL o (bC E fr.tm.get)) e then pN g rs r (m.add e.c i) (pL E o (bC E fr.tm.get) e i pd) (fr.app o.dst e) e.h else none
  |none=>none
end
inductive Ex where
 |normal
 |exit (id:Nat)
 |ret
 deriving DecidableEq,Inhabited
def lQ(g:Fr->Heap->Option (Ex×Fr×Heap)):Nat->Fr->Heap->Option (Ex×Fr×Heap)
 |0,_,_=>none
 |n+1,fr,h=>match g fr h with
  |some (.normal,fr',h')=>lQ g n fr' h'
  |r=>r
def Co(ops:Array Oper):Nat->Nat:=λi=>(Region.before ops).getD i 0
def vI(ops:List Oper)(p q:Oper×Nat):Bool:=Nat.blt p.2 q.2|| (!Nat.beq p.2 q.2&& (p.1.after.toList.all λe=>!Nat.beq e.on q.2) &&Oper.apart ops.toArray p.1 q.1)
def Cm(ops:List Oper):List (Oper×Nat)->Bool
 | []=>true
 |p::r=>r.all (vI ops p) &&Cm ops r
def Af(ops:List Oper)(l:List Nat):List (Oper×Nat):=l.filterMap λi=>ops[i]?.map λo=>(o,i)
def X1(l:List Nat)(draw:Bool)(ops:List Oper):List (Oper×Nat):=match draw,l with
 |true,i::r=>match Nat.ble (i::r).length ops.length&& (List.range ops.length).all (λj=>(i::r).contains j) &&Cm ops (Af ops (i::r))with
  |true=>Af ops (i::r)
  |false=>ops.zipIdx
 |_,_=>ops.zipIdx
section
variable (E:Env) (f:FuncId) (cf:FuncId->Y14->Heap->Option (IV×Heap)) (n:Nat)
def dV:Code->Fr->Heap->Option (Ex×Fr×Heap)
 | .skip,fr,h=>some (.normal,fr,h)
 | .region id ops draw,fr,h=>match pN E f cf ops.toList draw (Co ops) (E.an f id) (a4F h.next (E.an f id)) (X1 (E.od f id) draw ops.toList) {} [] (fr.start E f ops.toList draw) (h.reserve (E.an f id).length)with
  |some (fr',h')=>some (.normal,fr',h')
  |none=>none
 | .seq a b,fr,h=>match dV a fr h with
  |some (.normal,fr',h')=>dV b fr' h'
  |r=>r
 | .cond c a b,fr,h=>match bC E fr.tm.get c with
  |some (.v (.bool true))=>dV a fr h
  |some (.v (.bool false))=>dV b fr h
  |_=>none
 | .block id c,fr,h=>match dV c fr h with
  |some (.exit id',fr',h')=>if id'=id then some (.normal,fr',h')else some (.exit id',fr',h')
  |r=>r
 | .loop c,fr,h=>lQ (dV c) n fr h
 | .exit id,fr,h=>some (.exit id,fr,h)
 | .scope c,fr,h=>dV c fr h
 | .ret,fr,h=>some (.ret,fr,h)
 |_,_,_=>none
end
def J2(P:Program)(g:Fr)(h:Heap):ResultVar->Option IV
 | .tmp t=>bH (g.tm.get t)
 | .cell a t=>match g.tm.get a with
  |some (.l s off)=>match g.lv.get s with
   |some cs=>eM P t cs off
   |none=>none
  |some (.v (.ptr id off))=>match h.get id with
   | .cells cs=>eM P t cs off
   |_=>none
  |_=>none
def jT(P:Program)(g:Fr)(h:Heap):List ResultVar->Option (Y14)
 | []=>some []
 |r::rs=>match J2 P g h r,jT P g h rs with
  |some v,some vs=>some (v::vs)
  |_,_=>none
def eF:Y14->IV
 | [v]=>v
 |vs=> .tuple vs
def nG:Y14->Nat->PT TV->PT TV
 | [],_,t=>t
 |v::r,i,t=>nG r (i+1) (t.set i (some (.v v)))
def mH(h:Heap):IV->IV×Heap
 | .hslice id off len sz=>match h.get id with
  | .cells cs=>if 0<sz/\off+len*sz<=cs.length then(.vslice none 0 len sz ((cs.drop off).take (len*sz)),h.set id .dead)else(.hslice id off len sz,h)
  |_=>(.hslice id off len sz,h)
 |v=>(v,h)
def nN(g:Heap->IV->IV×Heap)(h:Heap):Y14->Y14×Heap
 | []=>([],h)
 |v::r=>
  let x:=g h v
  let y:=nN g x.2 r
  (x.1::y.1,y.2)
def Dp(h:Heap):IV->IV×Heap
 | .agg cs=>let x:=nN mH h cs; (.agg x.1,x.2)
 |v=>mH h v
def e8C(h:Heap):IV->IV×Heap
 | .tuple vs=>let x:=nN Dp h vs; (.tuple x.1,x.2)
 |v=>Dp h v
def sP(h:Heap):IV->IV
 | .nilslice=> .vslice none 0 0 1 []
 | .vslice none _ len sz cs=> .vslice none 0 len sz cs
 | .hslice id off len sz=>match h.get id with
  | .cells cs=>if 0<sz/\off+len*sz<=cs.length then .vslice none 0 len sz ((cs.drop off).take (len*sz))else .hslice id off len sz
  |_=> .hslice id off len sz
 |v=>v
def G9(g:Heap):IV->Heap
 | .hslice id _ _ _=>match g.get id with
  | .cells _=>g.set id .dead
  |_=>g
 |_=>g
def c0E(g:Heap):Y14->Heap
 | []=>g
 |v::r=>c0E (G9 g v) r
def a1S(h:Heap)(v:IV):IV×Heap:=match Dp h v with
 | (.vslice none e len sz cs,h')=>(.vslice none e len sz (cs.map (sP h')),c0E h' cs)
 |y=>y
def X0(E:Env)(f:FuncId)(ts:List TypeId)(vs:Y14):Y14:=match E.nr f with
 |true=>dS E.P ts vs
 |false=>vs
def lO(E:Env)(f:FuncId)(v:IV)(h:Heap):IV×Heap:=if E.fz f then e8C h v else(v,h)
def iJ(E:Env)(f:FuncId)(cf:FuncId->Y14->Heap->Option (IV×Heap))(n:Nat)(rs:List ResultVar)(c:Code)(g:Y14)(h:Heap):Option (Y14×Heap):=
 match dV E f cf n c ⟨nG g 0 .nil,.nil⟩ h with
 |some (.normal,fr,h')=>(jT E.P fr h' rs).map (·,h')
 |some (.ret,fr,h')=>(jT E.P fr h' rs).map (·,h')
 |_=>none
def Dq(E:Env)(f:FuncId)(vs:Y14)(h:Heap):Y14:=if E.fz f then(nN (if E.fd f=true then a1S else Dp) h vs).1 else vs
def Qz(E:Env)(f:FuncId)(ts:List TypeId)(vs:Y14)(h:Heap):Option IV:=
 let ws:=dS E.P ts (Dq E f vs h)
 if aQ ws then some (eF ws)else none
mutual
def Ng:IV->Bool
 | .bool _=>true
 | .int _ _=>true
 | .str _=>true
 | .agg cs=>F6 cs
 | .tuple cs=>F6 cs
 |_=>false
def F6:Y14->Bool
 | []=>true
 |v::r=>Ng v&&F6 r
end
def I0:Y14->Bool
 | []=>true
 | .hslice _ _ _ _::_=>false
 |_::r=>I0 r
def a7I(E:Env)(ts:List TypeId)(vs:Y14):Option IV:=if F6 (dS E.P ts vs)then some (eF (dS E.P ts vs))else none
def jU(E:Env):Nat->FuncId->Y14->Heap->Option (IV×Heap)
 |0,_,_,_=>none
 |n+1,f,args,h=>
  match E.P.funcs[f]? with
  |some fn=>match fn.body with
   |some c=>match E.iso f with
    |false=>match E.le f with
     |false=>match iJ E f (jU E n) n fn.results.toList c (X0 E f fn.params.toList args) h with
      |some (vs,h')=>some (lO E f (eF (X0 E f fn.resultTypes.toList vs)) h')
      |none=>none
     |true=>if aQ (dS E.P fn.params.toList (nN mH h args).1)then match iJ E f (jU E n) n fn.results.toList c (dS E.P fn.params.toList (nN mH h args).1) Heap.empty with
      |some (vs,_)=>(a7I E fn.resultTypes.toList vs).map (·,h)
      |none=>none
      else none
    |true=>if aQ (dS E.P fn.params.toList args)then match iJ E f (jU E n) n fn.results.toList c (dS E.P fn.params.toList args) Heap.empty with
     |some (vs,h')=>(Qz E f fn.resultTypes.toList vs h').map (·,h)
     |none=>none
     else none
   |none=>none
  |none=>none
theorem iB(E:Env)(n:Nat)(f:FuncId)(g:Y14)(h:Heap):jU E (n+1) f g h=
 match E.P.funcs[f]? with
 |some fn=>match fn.body with
  |some c=>match E.iso f with
   |false=>match E.le f with
    |false=>match iJ E f (jU E n) n fn.results.toList c (X0 E f fn.params.toList g) h with
     |some (vs,h')=>some (lO E f (eF (X0 E f fn.resultTypes.toList vs)) h')
     |none=>none
    |true=>if aQ (dS E.P fn.params.toList (nN mH h g).1)then match iJ E f (jU E n) n fn.results.toList c (dS E.P fn.params.toList (nN mH h g).1) Heap.empty with
     |some (vs,_)=>(a7I E fn.resultTypes.toList vs).map (·,h)
     |none=>none
     else none
   |true=>if aQ (dS E.P fn.params.toList g)then match iJ E f (jU E n) n fn.results.toList c (dS E.P fn.params.toList g) Heap.empty with
    |some (vs,h')=>(Qz E f fn.resultTypes.toList vs h').map (·,h)
    |none=>none
    else none
  |none=>none
 |none=>none:=rfl
theorem a0G{n:Nat}{x:TV}{s g:Nat}(h:pC n x=some (.l s g)): ∃o,x= .l s o:=by
 unfold pC at h;split at h<;>simp at h
 exact⟨_,by rw [h.1]⟩
theorem c2V{E:Env}{f:FuncId}{o:Oper}{ev:Operand->Option TV}{s g:Nat}(h:eQ E f o ev=some (.l s g,none)): ∃x i,ev x=some (.l s i):=by
 unfold eQ at h;split at h
 case h_1 x hx=>
  split at h
  .cases h
  .obtain⟨y,h1,h2⟩:=AD.1 h;simp at h2;subst h2;exact⟨_,_,h1⟩
 case h_2 x hx=>obtain⟨y,h1,h2⟩:=AD.1 h;simp at h2;subst h2;exact⟨_,_,h1⟩
 case h_3 c a b hx=>
  split at h
  .obtain⟨y,h1,h2⟩:=AD.1 h;simp at h2;subst h2;exact⟨_,_,h1⟩
  .obtain⟨y,h1,h2⟩:=AD.1 h;simp at h2;subst h2;exact⟨_,_,h1⟩
  .cases h
 all_goals (repeat' split at h)
 all_goals first
  | (cases h;done)
  | (exfalso;obtain⟨y,h1,h2⟩:=AD.1 h;simp at h2;done)
  | (simp at h;done)
  | (obtain⟨y,h1,h2⟩:=AD.1 h;simp only [BX,and_true]at h2;subst h2;obtain⟨i,rfl⟩:=a0G h1;exact⟨_,_,by assumption⟩)
  | (simp only [AC,BX,TV.l.injEq,and_true]at h;obtain⟨rfl,rfl⟩:=h;exact⟨_,_,by assumption⟩)
theorem c2U{E:Env}{f:FuncId}{o:Oper}{ev:Operand->Option TV}{s g d:Nat}{cs:Y14}(h:eQ E f o ev=some (.l s g,some cs))(hd:o.dst=some d):s=d:=by
 unfold eQ at h
 repeat' split at h
 all_goals first
  | (cases h;done)
  | (simp at h;done)
  | (simp_all;done)
  | (obtain⟨y,h1,h2⟩:=AD.1 h;simp at h2;done)
  | (obtain⟨y,h1,h2⟩:=AD.1 h;simp_all;done)
theorem c3D{E:Env}{o:Oper}{ev:Operand->Option TV}{h:Heap}{tv:TV}(g:dR E o ev h=some tv): ∃x,tv= .v x:=by
 unfold dR at g
 repeat' split at g
 all_goals first
  | (cases g;done)
  | (obtain⟨y,_,h2⟩:=AD.1 g;exact⟨_,h2.symm⟩)
  | (simp only [AC]at g;exact⟨_,g.symm⟩)
theorem d9E{E:Env}{f:FuncId}{o:Oper}{ev:Operand->Option TV}{h:Heap}{q:Option TV×Heap}{tv:TV}(g:iM E f o ev h=some q)(i:q.1=some tv): ∃x,tv= .v x:=by
 unfold iM at g
 repeat' split at g
 all_goals first
  | (cases g;done)
  | (obtain⟨y,_,h2⟩:=AD.1 g;subst h2;simp at i;done)
  | (obtain⟨y,_,h2⟩:=AD.1 g;subst h2;simp only [AC]at i;exact⟨_,i.symm⟩)
  | (simp only [AC]at g;subst g;simp only [AC]at i;exact⟨_,i.symm⟩)
  | (simp only [AC]at g;subst g;simp at i;done)
theorem d4B{E:Env}{f:FuncId}{o:Oper}{ev:Operand->Option TV}{n:Nat}{q:Option TV×Option IObj}{tv:TV}(g:Bl E f o ev n=some q)(i:q.1=some tv): ∃x,tv= .v x:=by
 unfold Bl at g
 repeat' split at g
 all_goals first
  | (cases g;done)
  | (obtain⟨y,_,h2⟩:=AD.1 g;subst h2;simp only [AC]at i;exact⟨_,i.symm⟩)
  | (simp only [AC]at g;subst g;simp only [AC]at i;exact⟨_,i.symm⟩)
theorem Xw{g len sz:Nat}{cs:Y14} :uU g len sz cs≠ .free:=by
 unfold uU
 split<;>simp
theorem b4J{E:Env}{f:FuncId}{o:Oper}{ev:Operand->Option TV}{n:Nat}{v:Option TV}{x:IObj}(g:Bl E f o ev n=some (v,some x)):x≠ .free:=by
 unfold Bl at g
 repeat' split at g
 all_goals first
  | (cases g;done)
  | (obtain⟨y,_,h2⟩:=AD.1 g;simp only [BX,AC]at h2;rw [<-h2.2];simp;done)
  | (simp only [AC,BX]at g;rw [<-g.2];first|exact Xw|simp)
  | (simp at g;done)
structure Meta where
 nid:Nat
 loc:Nat->Y10
 tip:Nat->Nat
 cur:Nat->Nat×Nat
 im:Nat->Nat->Option Value
 bsz:Nat->Y10
inductive VR(M:Meta):IV->Value->Prop where
 |bool (b:Bool):VR M (.bool b) (.bool b)
 |int (k:IntKind) (n:Int):VR M (.int k n) (.int k n)
 |str (s:ByteArray):VR M (.str s.data.toList) (.string s)
 |nilptr:VR M .nilptr (.pointer none)
 |ptr {id off b:Nat} (hl:M.loc id=some b):VR M (.ptr id off) (.pointer (some ⟨b,off,none⟩))
 |vref {cs:Y14} {off b base:Nat} (rv:Nat->Value) (him: ∀i,i<cs.length->M.im b (base+i)=some (rv i))
  (hv: ∀(i:Nat)(h:i<cs.length),VR M cs[i] (rv i)) (hc: ∀(i:Nat)(h:i<cs.length),isCell cs[i]=true):VR M (.vref cs off) (.pointer (some ⟨b,base+off,none⟩))
 |nilslice:VR M .nilslice (.slice none 0 0)
 |vnil {sz:Nat} :VR M (.vslice none 0 0 sz []) (.slice none 0 0)
 |hslice {id off len sz cap b:Nat} (a:Addr) (hl:M.loc id=some b) (ha:cap=0\/ (a=⟨b,off,none⟩/\∃n,M.bsz b=some n/\off+cap*sz<=n)) (hlen:len<=cap):
  VR M (.hslice id off len sz) (.slice (some a) len cap)
 |vslice {id:Y10} {e len sz cap:Nat} {cs:Y14} (a:Addr) (rv:Nat->Value) (hn:cs.length=len*sz) (hlen:len<=cap)
  (ha:cap=0\/ (a.spot=none/\∃n,M.bsz a.block=some n/\a.off+cap*sz<=n))
  (him: ∀i,i<cs.length->M.im a.block (a.off+i)=some (rv i))
  (hv: ∀(i:Nat)(h:i<cs.length),VR M cs[i] (rv i)) (hc: ∀(i:Nat)(h:i<cs.length),isCell cs[i]=true)
  (ht: ∀i,id=some i->i<M.nid/\cs.length<=e/\e<=M.tip i/\(e=M.tip i->cap=0\/M.cur i=(a.block,a.off+cs.length)))
  (hf:id=none->e=0\/ (e=1/\cap=len/\0<sz)):
  VR M (.vslice id e len sz cs) (.slice (some a) len cap)
 |nilmap:VR M .nilmap (.map none)
 |map {id b:Nat} (hl:M.loc id=some b):VR M (.map id) (.map (some b))
 |func {fn:Fn} {xs ys:Y14} (rx ry:Array Value) (hx:xs.length=rx.size) (hy:ys.length=ry.size)
  (vx: ∀(i:Nat)(h:i<xs.length)(h':i<rx.size),VR M xs[i] rx[i]) (vy: ∀(i:Nat)(h:i<ys.length)(h':i<ry.size),VR M ys[i] ry[i]):VR M (.func fn xs ys) (.func fn rx ry)
 |nilfunc:VR M .nilfunc .nilFunc
 |iface {t:TypeId} {x:IV} {v:Value} (h:VR M x v):VR M (.iface t x) (.iface t v)
 |nilIface:VR M .nilIface .nilIface
 |agg {cs:Y14} (rc:Array Value) (hn:cs.length=rc.size) (hv: ∀(i:Nat)(h:i<cs.length)(h':i<rc.size),VR M cs[i] rc[i])
  (hc: ∀(i:Nat)(h:i<cs.length),isCell cs[i]=true):VR M (.agg cs) (.agg rc)
 |tuple {vs:Y14} (rc:Array Value) (hn:vs.length=rc.size) (hv: ∀(i:Nat)(h:i<vs.length)(h':i<rc.size),VR M vs[i] rc[i]):VR M (.tuple vs) (.tuple rc)
structure Ext(M M':Meta):Prop where
 nid:M.nid<=M'.nid
 loc: ∀id b,M.loc id=some b->M'.loc id=some b
 im: ∀b o v,M.im b o=some v->M'.im b o=some v
 bsz: ∀b n,M.bsz b=some n->M'.bsz b=some n
 tip: ∀i,i<M.nid->M.tip i<=M'.tip i
 cur: ∀i,i<M.nid->M.tip i=M'.tip i->M.cur i=M'.cur i
theorem Ext.refl(M:Meta):Ext M M:=⟨AF _,λ_ _ h=>h,λ_ _ _ h=>h,λ_ _ h=>h,λ_ _=>AF _,λ_ _ _=>rfl⟩
theorem Ext.trans{A B C:Meta}(h:Ext A B)(k:Ext B C):Ext A C where
 nid:=CG h.nid k.nid
 loc:=λid b e=>k.loc _ _ (h.loc _ _ e)
 im:=λb o v e=>k.im _ _ _ (h.im _ _ _ e)
 bsz:=λb n e=>k.bsz _ _ (h.bsz _ _ e)
 tip:=λi g=>CG (h.tip i g) (k.tip i (AU g h.nid))
 cur:=λi g e=>by
  have h1:=h.tip i g;have h2:=k.tip i (AU g h.nid);exact(h.cur i g JZ).trans (k.cur i (AU g h.nid) JZ)
theorem VR.mono{M M':Meta}(l:Ext M M'){x:IV}{r:Value}(h:VR M x r):VR M' x r:=by
 induction h with
 |bool b=>exact .bool b
 |int k n=>exact .int k n
 |str s=>exact .str s
 |nilptr=>exact .nilptr
 |ptr hl=>exact .ptr (l.loc _ _ hl)
 |vref rv him hv hc ih=>exact .vref rv (λi y=>l.im _ _ _ (him i y)) ih hc
 |nilslice=>exact .nilslice
 |vnil=>exact .vnil
 |hslice a hl g hlen=>
  refine .hslice a (l.loc _ _ hl) ?_ hlen;rcases g with g| ⟨g,n,m,u⟩
  .exact .inl g
  .exact .inr ⟨g,n,l.bsz _ _ m,u⟩
 |vslice a rv m hlen g him hv hc ht hf ih=>
  refine .vslice a rv m hlen ?_ (λi y=>l.im _ _ _ (him i y)) ih hc ?_ hf
  .rcases g with g| ⟨g,n,m,u⟩
   .exact .inl g
   .exact .inr ⟨g,n,l.bsz _ _ m,u⟩
  .intro i y;obtain⟨h1,h0,h2,h3⟩:=ht i y;have:=l.tip i h1;refine⟨AU h1 l.nid,h0,CG h2 this,λO=>?_⟩;have j:=h3 JZ;rcases j with j|j
   .exact .inl j
   .exact .inr ((l.cur i h1 JZ).symm.trans j)
 |nilmap=>exact .nilmap
 |map hl=>exact .map (l.loc _ _ hl)
 |func K L D G R T z A=>exact .func K L D G z A
 |nilfunc=>exact .nilfunc
 |iface h ih=>exact .iface ih
 |nilIface=>exact .nilIface
 |agg rc m hv hc ih=>exact .agg rc m ih hc
 |tuple rc m hv ih=>exact .tuple rc m ih
theorem VR.isCell{M:Meta}{x:IV}{r:Value}(h:VR M x r):isCell x=r.oneCell':=by
 cases h<;>rfl
def cU(M:Meta)(xs:Y14)(rs:List Value):Prop:=xs.length=rs.length/\∀(i:Nat)(h:i<xs.length)(h':i<rs.length),VR M xs[i] rs[i]
def eP(M:Meta)(xs:Y14)(rs:List Value):Prop:=cU M xs rs/\∀(i:Nat)(h:i<xs.length),isCell xs[i]=true
theorem cU.mono{M M':Meta}(g:Ext M M'){xs:Y14}{rs:List Value}(h:cU M xs rs):cU M' xs rs:=⟨h.1,λi a b=>(h.2 i a b).mono g⟩
theorem eP.mono{M M':Meta}(g:Ext M M'){xs:Y14}{rs:List Value}(h:eP M xs rs):eP M' xs rs:=⟨h.1.mono g,h.2⟩
theorem cU.nil(M:Meta):cU M [] []:=⟨rfl,λi h=>absurd h KB⟩
theorem eP.nil(M:Meta):eP M [] []:=⟨cU.nil M,λi h=>absurd h KB⟩
theorem cU.cons{M:Meta}{x:IV}{r:Value}{xs:Y14}{rs:List Value}(h:VR M x r)(g:cU M xs rs):cU M (x::xs) (r::rs):=by
 refine⟨by simp [g.1],λi a b=>?_⟩
 cases i with
 |zero=>exact h
 |succ i=>exact g.2 i (by simpa using a) (by simpa using b)
theorem eP.cons{M:Meta}{x:IV}{r:Value}{xs:Y14}{rs:List Value}(h:VR M x r)(j:Pv.isCell x=true)(g:eP M xs rs):eP M (x::xs) (r::rs):=by
 refine⟨g.1.cons h,λi a=>?_⟩
 cases i with
 |zero=>exact j
 |succ i=>exact g.2 i (by simpa using a)
theorem cU.uncons{M:Meta}{x:IV}{xs:Y14}{rs:List Value}(h:cU M (x::xs) rs): ∃r rs',rs=r::rs'/\VR M x r/\cU M xs rs':=by
 obtain⟨g,j⟩:=h
 cases rs with
 |nil=>simp at g
 |cons r rs'=>
  refine⟨r,rs',rfl,j 0 KB KB,by simpa using g,λi a b=>?_⟩;exact j (i+1) (by simpa using a) (by simpa using b)
theorem cU.get{M:Meta}{xs:Y14}{rs:List Value}(h:cU M xs rs){i:Nat}{x:IV}(l:xs[i]?=some x): ∃r,rs[i]?=some r/\VR M x r:=by
 obtain⟨j,rfl⟩:=BT.1 l;have g:i<rs.length:=h.1▸j;exact⟨rs[i],AB g,h.2 i j g⟩
theorem eP.get{M:Meta}{xs:Y14}{rs:List Value}(h:eP M xs rs){i:Nat}{x:IV}(g:xs[i]?=some x): ∃r,rs[i]?=some r/\VR M x r:=h.1.get g
theorem cU.append{M:Meta}{xs i:Y14}{rs g:List Value}(h:cU M xs rs)(k:cU M i g):cU M (xs++i) (rs++g):=by
 induction xs generalizing rs with
 |nil=>cases rs with
  |nil=>simpa using k
  |cons r rs=>simp [cU]at h
 |cons x xs ih=>
  obtain⟨r,j,rfl,h1,h2⟩:=h.uncons;exact(ih h2).cons h1
theorem eP.append{M:Meta}{xs j:Y14}{rs g:List Value}(h:eP M xs rs)(k:eP M j g):eP M (xs++j) (rs++g):=by
 refine⟨h.1.append k.1,λi a=>?_⟩;rw [JM];split
 .exact h.2 _ _
 .exact k.2 _ _
theorem cU.drop{M:Meta}{xs:Y14}{rs:List Value}(h:cU M xs rs)(n:Nat):cU M (xs.drop n) (rs.drop n):=by
 refine⟨by simp [h.1],λi a b=>?_⟩;simp only [DJ]at a b;simp only [GM];exact h.2 _ _ _
theorem cU.take{M:Meta}{xs:Y14}{rs:List Value}(h:cU M xs rs)(n:Nat):cU M (xs.take n) (rs.take n):=by
 refine⟨by simp [h.1],λi a b=>?_⟩;simp only [AW]at a b;simp only [GO];exact h.2 _ _ _
theorem eP.drop{M:Meta}{xs:Y14}{rs:List Value}(h:eP M xs rs)(n:Nat):eP M (xs.drop n) (rs.drop n):=
 ⟨h.1.drop n,λi a=>by simp only [DJ]at a;simp only [GM];exact h.2 _ _⟩
theorem eP.take{M:Meta}{xs:Y14}{rs:List Value}(h:eP M xs rs)(n:Nat):eP M (xs.take n) (rs.take n):=
 ⟨h.1.take n,λi a=>by simp only [AW]at a;simp only [GO];exact h.2 _ _⟩
theorem eP.len{M:Meta}{xs:Y14}{rs:List Value}(h:eP M xs rs):xs.length=rs.length:=h.1.1
theorem eP.one{M:Meta}{xs:Y14}{rs:List Value}(h:eP M xs rs): ∀v∈rs,v.oneCell'=true:=by
 intro v l;obtain⟨i,j,rfl⟩:=HK l;have g:i<xs.length:=h.len▸j;rw [<- (h.1.2 i g j).isCell];exact h.2 i g
theorem wT{M:Meta}{cs:Y14}{r:Value}(h:VR M (.agg cs) r): ∃rc:List Value,r= .agg rc.toArray/\eP M cs rc:=by
 cases h with
 |agg rc hn hv hc=>exact⟨rc.toList,KB,⟨by simpa using hn,λi a b=>by simpa using hv i a (by simpa using b)⟩,hc⟩
theorem jM{M:Meta}{cs:Y14}{rc:List Value}(h:eP M cs rc):VR M (.agg cs) (.agg rc.toArray):=
 .agg rc.toArray (by simpa using h.len) (λi a b=>by simpa using h.1.2 i a (by simpa using b)) h.2
theorem Ym{M:Meta}{cs:Y14}{r:Value}(h:VR M (.tuple cs) r): ∃rc:List Value,r= .tuple rc.toArray/\cU M cs rc:=by
 cases h with
 |tuple rc hn hv=>exact⟨rc.toList,KB,by simpa using hn,λi a b=>by simpa using hv i a (by simpa using b)⟩
theorem eH{M:Meta}{cs:Y14}{rc:List Value}(h:cU M cs rc):VR M (.tuple cs) (.tuple rc.toArray):=
 .tuple rc.toArray (by simpa using h.1) (λi a b=>by simpa using h.2 i a (by simpa using b))
theorem d2G{M:Meta}{fn:Fn}{xs l:Y14}{r:Value}(h:VR M (.func fn xs l) r): ∃g j:List Value,r= .func fn g.toArray j.toArray/\cU M xs g/\cU M l j:=by
 cases h with
 |func g j m u y z=>exact⟨g.toList,j.toList,KB,⟨by simpa using m,λi a b=>by simpa using y i a (by simpa using b)⟩,⟨by simpa using u,λi a b=>by simpa using z i a (by simpa using b)⟩⟩
theorem Gg{M:Meta}{fn:Fn}{xs l:Y14}(g:cU M xs V)(j:cU M l W):VR M (.func fn xs l) (.func fn V.toArray W.toArray):=
 .func V.toArray W.toArray (by simpa using g.1) (by simpa using j.1) (λi a b=>by simpa using g.2 i a (by simpa using b)) (λi a b=>by simpa using j.2 i a (by simpa using b))
theorem c4W{M:Meta}(s:Y11):VR M (.str s) (.string ⟨s.toArray⟩):=VR.str ⟨s.toArray⟩
theorem lR{M:Meta}{x:IV}{r:Value}(h:VR M x r)(g:uR x=true):eP M (cellsOf x) r.cells.toList:=by
 cases h with
 | @agg cs rc hn hv hc=>exact(show eP M cs rc.toList from⟨⟨by simpa using hn,λi a b=>by simpa using hv i a (by simpa using b)⟩,hc⟩)
 |tuple=>simp [uR]at g
 |_=>exact eP.cons (by first|exact .bool _|exact .int _ _|exact .str _|exact .nilptr|exact .ptr ‹_› |exact .nilslice|exact .vnil|exact .nilmap|exact .map ‹_› |exact .nilfunc|exact .nilIface|exact .iface ‹_› | (constructor<;>assumption)) rfl (eP.nil M)
theorem W5{M:Meta}{v:Value}{x:IV}(h:Sg v=some x):VR M x v/\isCell x=true:=by
 unfold Sg at h;split at h<;>simp at h<;>subst h
 .exact⟨.bool _,rfl⟩
 .exact⟨.int _ _,rfl⟩
 .exact⟨.str _,rfl⟩
 .exact⟨.nilptr,rfl⟩
 .exact⟨.nilslice,rfl⟩
 .exact⟨.nilmap,rfl⟩
 .exact⟨.nilfunc,rfl⟩
 .exact⟨.nilIface,rfl⟩
theorem Z7{M:Meta} : ∀{l:List Value}{xs:Y14},wH l=some xs->eP M xs l
 | [],xs,h=>by simp [wH]at h;subst h;exact eP.nil M
 |v::r,xs,h=>by
  unfold wH at h;split at h
  .rename_i x g h1 h2;simp at h;subst h;exact eP.cons (W5 (M:=M) h1).1 (W5 (M:=M) h1).2 (Z7 h2)
  .simp at h
theorem D2{M:Meta}{v:Value}{x:IV}(h:ofValue v=some x):VR M x v/\uR x=true:=by
 unfold ofValue at h;split at h
 .rename_i cs;obtain⟨xs,h1,h2⟩:=AD.1 h;subst h2;exact⟨by simpa using jM (Z7 (M:=M) h1),rfl⟩
 .have:=W5 (M:=M) h;refine⟨this.1,?_⟩;have h2:=this.2
  cases x<;>first|rfl|simp [isCell]at h2
theorem a7Q{M:Meta}{g:CK}{v:IV}{r:Value}(h:VR M v r):VR M (W9 g v) r:=by
 unfold W9
 split
 .cases h;exact .vnil
 .cases h with
  |vslice a rv hn hlen ha him hv hc ht hf=>exact .vslice a rv hn hlen ha him hv hc KB (λ_=> .inl rfl)
  |vnil=>exact .vnil
 .exact h
theorem b1T(g:CK)(v:IV):isCell (W9 g v)=isCell v:=by
 unfold W9
 split<;>rfl
theorem a7R{M:Meta} : ∀{l:List CK}{vs:Y14}{rs:List Value},cU M vs rs->cU M (rN l vs) rs
 | [],vs,rs,h=>by simpa [rN]using h
 |ck::r,[],rs,h=>by simpa [rN]using h
 |ck::r,v::vs,rs,h=>by
  obtain⟨q,g,rfl,h1,h2⟩:=h.uncons;exact cU.cons (a7Q h1) (a7R h2)
theorem Wu: ∀(l:List CK)(vs:Y14),(rN l vs).length=vs.length
 | [],vs=>rfl
 |ck::r,[]=>rfl
 |ck::r,v::vs=>by simp [rN,Wu r vs]
theorem Nw: ∀(l:List CK)(vs:Y14),(∀(i:Nat)(h:i<vs.length),isCell vs[i]=true)-> ∀(i:Nat)(h:i< (rN l vs).length),isCell (rN l vs)[i]=true
 | [],vs,h,i,hi=>h i hi
 |ck::r,[],h,i,hi=>by simp [rN]at hi
 |ck::r,v::vs,h,i,hi=>by
  cases i with
  |zero=>simp only [rN,GS,b1T];exact h 0 KB
  |succ i=>simp only [rN,FD];exact Nw r vs (λj g=>by have:=h (j+1) (by simpa using g);simpa using this) i (by simpa [rN]using hi)
theorem Wt{M:Meta}{l:List CK}{vs:Y14}{rs:List Value}(h:eP M vs rs):eP M (rN l vs) rs:=⟨a7R h.1,Nw l vs h.2⟩
theorem c9E{M:Meta}{P:Program}{t:TypeId}{v:IV}{r:Value}(h:VR M v r):VR M (mV P t v) r:=by
 unfold mV
 split
 .obtain⟨rc,rfl,g⟩:=wT h;exact jM (Wt g)
 .exact a7Q h
theorem sJ{M:Meta}{P:Program} : ∀{ts:List TypeId}{vs:Y14}{rs:List Value},cU M vs rs->cU M (dS P ts vs) rs
 | [],vs,rs,h=>by simpa [dS]using h
 |t::ts,[],rs,h=>by simpa [dS]using h
 |t::ts,v::vs,rs,h=>by
  obtain⟨q,g,rfl,h1,h2⟩:=h.uncons;exact cU.cons (c9E h1) (sJ h2)
def Meta.pure(M:Meta):Meta:= {M with nid:=0,loc:=λ_=>none }
theorem lE: ∀{cs:Y14},aQ cs=true-> ∀(i:Nat)(h:i<cs.length),aY cs[i]=true
 | [],_,i,hi=>by simp at hi
 |v::r,h,i,hi=>by
  simp only [aQ,AE]at h
  cases i with
  |zero=>exact h.1
  |succ i=>exact lE h.2 i (by simpa using hi)
theorem c9Z{M M':Meta}(j: ∀b o v,M.im b o=some v->M'.im b o=some v)(l: ∀b n,M.bsz b=some n->M'.bsz b=some n){x:IV}{r:Value}(h:VR M x r):aY x=true->VR M' x r:=by
 induction h with
 |bool b=>intro _;exact .bool b
 |int k n=>intro _;exact .int k n
 |str s=>intro _;exact .str s
 |nilptr=>intro _;exact .nilptr
 |ptr hl=>intro g;simp [aY]at g
 |vref rv hi hv hc ih=>intro g;simp only [aY]at g;exact .vref rv (λi h=>j _ _ _ (hi i h)) (λi h=>ih i h (lE g i h)) hc
 |nilslice=>intro _;exact .nilslice
 |vnil=>intro _;exact .vnil
 |hslice a hl ha hlen=>intro g;simp [aY]at g
 | @vslice id e len sz cap cs a rv hn hlen ha hi hv hc ht hf ih=>
  intro g
  cases id with
  |some id=>simp [aY]at g
  |none=>
   simp only [aY]at g;exact .vslice a rv hn hlen (ha.imp id λ⟨h1,n,h2,h3⟩=>⟨h1,n,l _ _ h2,h3⟩) (λi h=>j _ _ _ (hi i h)) (λi h=>ih i h (lE g i h)) hc KB hf
 |nilmap=>intro _;exact .nilmap
 |map hl=>intro g;simp [aY]at g
 |func A D y z G K m u=>
  intro g;simp only [aY,AE]at g;exact .func A D y z (λi a b=>m i a b (lE g.1 i a)) (λi a b=>u i a b (lE g.2 i a))
 |nilfunc=>intro _;exact .nilfunc
 |iface h ih=>intro g;simp only [aY]at g;exact .iface (ih g)
 |nilIface=>intro _;exact .nilIface
 |agg rc hn hv hc ih=>intro g;simp only [aY]at g;exact .agg rc hn (λi a b=>ih i a b (lE g i a)) hc
 |tuple rc hn hv ih=>intro g;simp only [aY]at g;exact .tuple rc hn (λi a b=>ih i a b (lE g i a))
theorem Fj{M M':Meta}(j: ∀b o v,M.im b o=some v->M'.im b o=some v)(g: ∀b n,M.bsz b=some n->M'.bsz b=some n){xs:Y14}{rs:List Value}(h:cU M xs rs)(l:aQ xs=true):cU M' xs rs:=
 ⟨h.1,λi a b=>c9Z j g (h.2 i a b) (lE l i a)⟩
section
variable {P:Program} {M:Meta}
def At(w:World)(b base:Nat)(rc:List Value):Prop:= ∀(i:Nat)(h:i<rc.length),w.cell? ⟨b,base+i,none⟩=some rc[i]
theorem dB(b g n:Nat):(⟨b,g,none⟩:Addr).add n=⟨b,g+n,none⟩:=by
 unfold Addr.add;split<;>simp_all
theorem oR{t:TypeId}{g:Bool}{n:Nat}(h:iL P t=some (g,n)):
  ∃d i,P.underlying t=some d/\P.info? t=some i/\Dx d=g/\i.size=n:=by
 unfold iL at h;split at h
 .rename_i d i h1 h2;simp at h;exact⟨d,i,h1,h2,h.1,h.2⟩
 .simp at h
theorem sL{t:TypeId}{d:TypeDesc}(h:P.underlying t=some d)(w:World):(isAgg t).run P w= .ok (Dx d) w:=by
 simp only [isAgg,AT,run_underlying h,AL]
 cases d<;>rfl
theorem cG{t:TypeId}{i:TypeInfo}(h:P.info? t=some i)(w:World):(sizeOf t).run P w= .ok i.size w:=by
 simp [sizeOf,typeInfo,h]
theorem pG{α:Type}(l:List α)(a n j:Nat)(x:α)(h:((l.drop a).take n)[j]?=some x):j<n/\l[a+j]?=some x:=by
 rw [DI]at h;split at h
 .rename_i g;exact⟨g,by simpa [DS]using h⟩
 .simp at h
theorem H5{t:TypeId}{cs:Y14}{rc:List Value}{w:World}{b base g:Nat}{v:IV}(l:eP M cs rc)(hm:At w b base rc)
  (h:eM P t cs g=some v): ∃r,(loadVar t ⟨b,base+g,none⟩).run P w= .ok r w/\VR M v r:=by
 unfold eM at h;split at h
 .rename_i n m;obtain⟨d,i,h1,h2,h3,h4⟩:=oR m;split at h
  .rename_i z;simp at h;subst h;refine⟨.agg ((rc.drop g).take n).toArray,?_,jM ((l.drop g).take n)⟩;have y:((rc.drop g).take n).length=n:=by simp;have:=l.len;omega
   have:=run_loadCells_list (P:=P) w ⟨b,base+g,none⟩ ((rc.drop g).take n) (by
    intro j x G;obtain⟨K,u⟩:=pG _ _ _ _ _ G;obtain⟨hk,rfl⟩:=BT.1 u;rw [dB,EY];exact hm _ hk)
   rw [y]at this;simp only [loadVar,AT,sL h1,AL,h3,if_true,cG h2,h4,this,AZ]
  .simp at h
 .rename_i n m;obtain⟨d,i,h1,h2,h3,h4⟩:=oR m;obtain⟨r,A,D⟩:=l.get h;obtain⟨hk,rfl⟩:=BT.1 A;refine⟨_,?_,D⟩;have:=hm g hk;simp [loadVar,sL h1,h3,run_load,this]
 .simp at h
theorem Bu{t:TypeId}{cs:Y14}{rc:List Value}{w:World}{v:IV}(l:eP M cs rc)
  (h:eM P t cs j=some v): ∃r,(part t rc.toArray j).run P w= .ok r w/\VR M v r:=by
 unfold eM at h;split at h
 .rename_i n g;obtain⟨d,i,h1,h2,h3,h4⟩:=oR g;split at h
  .rename_i m;simp at h;subst h;refine⟨.agg ((rc.drop j).take n).toArray,?_,jM ((l.drop j).take n)⟩;simp only [part,AT,sL h1,AL,h3,if_true,cG h2,h4,AZ]
   congr 2
   apply EL;simp [FY]
  .simp at h
 .rename_i n g;obtain⟨d,i,h1,h2,h3,h4⟩:=oR g;obtain⟨r,u,y⟩:=l.get h;refine⟨r,?_,y⟩;simp [part,sL h1,h3,u]
 .simp at h
theorem A9{α:Type}(l:List α)(i:Nat)(v:α)(h:i<l.length):(l.set i v).take (i+1)=l.take i++ [v]:=by
 induction l generalizing i with
 |nil=>simp at h
 |cons x l ih=>cases i with
  |zero=>simp
  |succ i=>simp only [HR,HL,CV];rw [ih i (by simpa using h)]
def rT(rc:List Value)(g:Nat)(c:List Value):List Value:=rc.take g++c++rc.drop (g+c.length)
theorem rC(rc:List Value)(g:Nat)(c:List Value)(h:g+c.length<=rc.length):(rT rc g c).length=rc.length:=by
 simp [rT];omega
theorem eP.spl{cs:Y14}{rc:List Value}(h:eP M cs rc){c:Y14}{r:List Value}(i:eP M c r)(g:Nat):eP M (Pv.spl cs g c) (rT rc g r):=by
 unfold Pv.spl rT
 rw [i.len];exact((h.take g).append i).append (h.drop _)
theorem jV(b:Nat): ∀(vs:List Value)(o:Nat)(w:World)(rc:Array Value)(i:TypeId)(fz:Nat×Nat),w.heap[b]?=some (.cells rc i fz)->o+vs.length<=rc.size->
  ∃g,(w.setCells b o vs).heap[b]?=some (.cells g i fz)/\g.toList=rT rc.toList o vs
 | [],o,w,rc,i,fz,h,_=>⟨rc,h,by simp [rT]⟩
 |v::r,o,w,rc,i,fz,h,hl=>by
  simp only [AS]at hl;have h1:(w.setCell ⟨b,o,none⟩ v).heap[b]?=some (.cells (rc.setIfInBounds o v) i fz):=by
   simp [World.setCell,DP,h]
  obtain⟨g,h2,h3⟩:=jV b r (o+1) _ _ _ _ h1 (by simp;omega);refine⟨g,h2,?_⟩;rw [h3];simp only [rT,HT,AS];have j:(rc.toList.set o v).take (o+1)=rc.toList.take o++ [v]:=A9 _ _ _ (by simp;omega);have l:(rc.toList.set o v).drop (o+1+r.length)=rc.toList.drop (o+(r.length+1)):=by
   rw [List.drop_set,if_pos JZ,show o+1+r.length=o+(r.length+1) by omega]
  rw [j,l];simp
theorem fQ(b:Nat): ∀(vs:List Value)(o:Nat)(w:World)(k:Nat),k≠b->(w.setCells b o vs).heap[k]?=w.heap[k]?
 | [],_,_,_,_=>rfl
 |v::r,o,w,k,h=>by
  rw [World.setCells,fQ b r (o+1) _ k h];simp only [World.setCell,DP];rw [if_neg (by simpa using λe=>h e.symm)]
theorem iD(b:Nat): ∀(vs:List Value)(o:Nat)(w:World),(w.setCells b o vs).heap.size=w.heap.size
 | [],_,_=>rfl
 |v::r,o,w=>by rw [World.setCells,iD b r (o+1)];simp
theorem iC(b:Nat): ∀(vs:List Value)(o:Nat)(w:World),(w.setCells b o vs).os=w.os/\(w.setCells b o vs).tape=w.tape/\(w.setCells b o vs).output=w.output
 | [],_,_=>⟨rfl,rfl,rfl⟩
 |v::r,o,w=>by
  rw [World.setCells];exact iC b r (o+1) _
theorem Yg{t:TypeId}{cs cs':Y14}{rc:Array Value}{w:World}{b g:Nat}{v:IV}{rv:Value}{fz:Nat×Nat}(hc:eP M cs (rc.toList.take cs.length))
  (hb:w.heap[b]?=some (.cells rc T fz)) (hf: ∀i,i<rc.size->w.frozen? ⟨b,i,none⟩=false) (hv:VR M v rv)
  (h:Pe P t cs g v=some cs'):
  ∃r,(storeVar t ⟨b,g,none⟩ rv).run P w= .ok () (w.setCells b g rv.cells.toList)/\(w.setCells b g rv.cells.toList).heap[b]?=some (.cells r T fz)/\
   r.size=rc.size/\cs'.length=cs.length/\eP M cs' (r.toList.take cs'.length)/\r.toList.drop cs.length=rc.toList.drop cs.length:=by
 unfold Pe at h;simp only at h;split at h
 case isFalse=>simp at h
 rename_i G;split at h
 case h_2=>simp at h
 rename_i n X;split at h
 case isFalse=>simp at h
 rename_i z;obtain⟨R,a0⟩:=z;simp at h;have A:=lR hv G;have Z: ∃i,P.info? t=some i/\i.size=n:=by
  unfold iN at X
  cases K:P.info? t with
  |none=>simp [K]at X
  |some i=>exact⟨i,rfl,by simpa [K]using X⟩
 obtain⟨i,K,L⟩:=Z;have a1:cs.length<=rc.size:=by have:=hc.len;simp at this;omega
 have m:rv.cells.toList.length=n:=by rw [<-A.len,R]
 obtain⟨r,h1,h2⟩:=jV b rv.cells.toList g w rc T fz hb (by rw [m];omega);have y:cs'=Pv.spl cs g (cellsOf v):=by rw [<-h];simp [Pv.spl,R]
 have u:cs'.length=cs.length:=by rw [y];simp [Pv.spl,R];omega
 have D:r.size=rc.size:=by
  have:=congrArg List.length h2;rw [rC _ _ _ (by rw [m];simp;omega)]at this;simpa using this
 refine⟨r,?_,h1,D,u,?_,?_⟩
 .have Y:=run_storeCells_cells (P:=P) b g rv.cells.toList 0 w (by
    intro j O;rw [m]at O;simp only [World.cell?,hb,HC];simp [show g+j<rc.size from JZ])
   (by
    intro j O;rw [m]at O;simpa using hf (g+j) JZ) A.one
  have V:rv.cells.size=i.size:=by rw [L,<-m];simp
  simp only [storeVar,AT,cG K,AL];rw [if_neg (by simpa using V)];simpa using Y
 .rw [u,y,h2];have e:(rT rc.toList g rv.cells.toList).take cs.length=rT (rc.toList.take cs.length) g rv.cells.toList:=by
   simp only [rT,m];rw [FO,FO];simp only [AW,AI,m,HO];rw [show min g rc.toList.length=g from by simp;omega];rw [show min cs.length g=g from JZ,show min g cs.length=g from JZ];rw [AJ (l:=rv.cells.toList) (by rw [m];omega)]
   congr 1
   rw [List.drop_take]
  rw [e];exact hc.spl A g
 .rw [h2];simp only [rT,m];rw [IE,IE];simp only [AW,AI,m];rw [show min g rc.toList.length=g from by simp;omega];rw [GU (by simp;omega),GU (by rw [m];omega)];rw [List.drop_drop,show g+n+(cs.length- (g+n))=cs.length from JZ];rfl
def PR(M:Meta):List (Nat×IV)->List (Nat×Value)->Prop
 | [],[]=>True
 | (i,x)::r,(j,v)::s=>i=j/\VR M x v/\PR M r s
 |_,_=>False
theorem Nc(g:Nat): ∀(l:List Value)(k:Nat)(rc:Array Value),g+k+l.length<=rc.size->
  ((l.zipIdx k).foldl (λcs (c,j)=>cs.setIfInBounds (g+j) c) rc).toList=rT rc.toList (g+k) l
 | [],k,rc,_=>by simp [rT]
 |c::l,k,rc,h=>by
  simp only [AS]at h;simp only [List.zipIdx_cons,IW];rw [Nc g l (k+1) (rc.setIfInBounds (g+k) c) (by simp;omega)];simp only [rT,HT,AS];have i:(rc.toList.set (g+k) c).take (g+(k+1))=rc.toList.take (g+k)++ [c]:=A9 _ _ _ (by simp;omega);have m:(rc.toList.set (g+k) c).drop (g+(k+1)+l.length)=rc.toList.drop (g+k+(l.length+1)):=by
   rw [List.drop_set,if_pos JZ,show g+(k+1)+l.length=g+k+(l.length+1) by omega]
  rw [i,m];simp
theorem Ud{β:Type}(a:Array Value)(f:β->Value×Nat->β)(z:β):a.zipIdx.foldl f z=(a.toList.zipIdx).foldl f z:=by
 rw [<-Array.foldl_toList,Array.toList_zipIdx]
theorem G4{g:Nat->Option (Nat×Nat)} : ∀{ps:List (Nat×IV)}{rs:List (Nat×Value)}{cells:Y14}{rc:Array Value}{l:Y14},PR M ps rs->eP M cells rc.toList->
  qW g cells ps=some l-> ∃ro:Array Value,Instr.fill g rc rs=some ro/\eP M l ro.toList
 | [],[],cells,rc,l,_,hc,h=>by simp [qW]at h;subst h;exact⟨rc,rfl,hc⟩
 | [],_::_,_,_,_,u,_,_=>u.elim
 |_::_,[],_,_,_,u,_,_=>u.elim
 | (i,x)::r,(j,v)::s,cells,rc,l,u,hc,h=>by
  obtain⟨rfl,G,u⟩:=u;unfold qW at h;unfold Instr.fill
  cases hpl:g i with
  |none=>simp [hpl]at h
  |some q=>
   obtain⟨D,n⟩:=q;simp only [hpl]at h⊢;split at h
   case isFalse=>simp at h
   rename_i m;obtain⟨h1,h2,h3⟩:=m;have y:=lR G h3;have A:v.cells.size=n:=by have:=y.len;simp at this;omega
   have z:rc.size=cells.length:=by have:=hc.len;simpa using this.symm
   rw [if_neg (by simp [A,z];omega)];refine G4 (ps:=r) u ?_ h;rw [Ud];have:=Nc D v.cells.toList 0 rc (by simp [A,z];omega);simp only [HC]at this;rw [this];exact hc.spl y D
end
section
variable {P:Program} {M:Meta} (w:World)
theorem a4G{op:BinOp}{k:IntKind}{a b:Int}{v:IV}(t:TypeId)(h:wG op k a b=some v): ∃r,(binOp op t (.int k a) (.int k b)).run P w= .ok r w/\VR M v r:=by
 cases op<;>simp only [wG]at h
 case quo=>
  split at h
  .simp at h
  .rename_i g;simp at h;subst h;exact⟨_,by simp [binOp,Op.intDiv,g],.int _ _⟩
 case rem=>
  split at h
  .simp at h
  .rename_i g;simp at h;subst h;exact⟨_,by simp [binOp,Op.intDiv,g],.int _ _⟩
 all_goals (first| (simp at h;done)| (simp only [AC]at h;subst h))
 .exact⟨_,by rw [binOp_add];rfl,.int _ _⟩
 .exact⟨_,by rw [binOp_sub];rfl,.int _ _⟩
 .exact⟨_,by rw [binOp_mul];rfl,.int _ _⟩
 .exact⟨_,by rw [binOp_and];rfl,.int _ _⟩
 .exact⟨_,by rw [binOp_or];rfl,.int _ _⟩
 .exact⟨_,by rw [binOp_xor];rfl,.int _ _⟩
 .exact⟨_,by rw [binOp_andNot];rfl,.int _ _⟩
 .exact⟨_,by rw [binOp_eql];rfl,.bool _⟩
 .exact⟨_,by rw [binOp_neq];rfl,.bool _⟩
 .exact⟨_,by rw [binOp_lss];rfl,.bool _⟩
 .exact⟨_,by rw [binOp_leq];rfl,.bool _⟩
 .exact⟨_,by rw [binOp_gtr];rfl,.bool _⟩
 .exact⟨_,by rw [binOp_geq];rfl,.bool _⟩
theorem J3{op:BinOp}{k yk:IntKind}{a b:Int}{v:IV}(t:TypeId)(ho:op= .shl\/op= .shr)(h:sM op k a b=some v):
  ∃r,(binOp op t (.int k a) (.int yk b)).run P w= .ok r w/\VR M v r:=by
 unfold sM at h;split at h
 .simp at h
 .rename_i g;rcases ho with rfl|rfl<;>simp only [AC]at h<;>subst h
  .exact⟨_,by rw [binOp_shl];simp [Op.shift,g],.int _ _⟩
  .exact⟨_,by rw [binOp_shr];simp [Op.shift,g],.int _ _⟩
theorem a4I{op:BinOp}{a b:ByteArray}{v:IV}(t:TypeId)(h:Gb op a.data.toList b.data.toList=some v):
  ∃r,(binOp op t (.string a) (.string b)).run P w= .ok r w/\VR M v r:=by
 have i:=ByteArray.toList_eq a;have j:=ByteArray.toList_eq b
 cases op<;>simp only [Gb]at h
 case add=>
  split at h
  .simp at h
  .rename_i g;simp only [AC]at h;subst h;have l: ¬ (((a.size+b.size:Nat):Int)>IntKind.i64.max):=by
    rw [IntKind.max_i64];simp only [EV]at g;exact g
   refine⟨.string (a++b),?_,?_⟩
   .simp only [binOp,Op.stringOp];rw [if_neg l];rfl
   .have:=VR.str (M:=M) (a++b)
    rwa [show(a++b).data.toList=a.data.toList++b.data.toList from KB]at this
 all_goals first
  | (simp at h;done)
  | (simp only [AC]at h;subst h;exact⟨_,by simp [binOp,Op.stringOp,i,j],.bool _⟩)
theorem nS{d:TypeDesc}{x y:IV}{r:Bool}{a b:Value}{t:TypeId}(n:Nat)(g:P.underlying t=some d)(h:dD d x y=some r)(i:VR M x a)(j:VR M y b):
  (Op.equalIn (n+1) t a b).run P w= .ok r w:=by
 unfold dD at h;split at h
 .simp at h;subst h;cases i;cases j;exact run_equalIn_bool w n t _ _ g
 .split at h
  .rename_i hk;simp at h;subst h;subst hk;cases i;cases j;exact run_equalIn_int w n t _ _ _ _ g
  .simp at h
 .simp at h;subst h
  cases i with|str l=>cases j with|str m=>
  rw [run_equalIn_string w n t _ _ g,ByteArray.toList_eq,ByteArray.toList_eq]
 .simp at h
theorem fE{t:TypeId}{d:TypeDesc}{rc:List Value}{r:Value}(g:P.underlying t=some d)(hd:Dx d=false)(h:rc[i]?=some r):
  (part t rc.toArray i).run P w= .ok r w:=by
 simp [part,sL g,hd,h]
theorem eG{d:TypeDesc}{x y:IV}{r:Bool}(h:dD d x y=some r):Dx d=false:=by
 cases d<;>first|rfl|simp [dD]at h
theorem uF(n:Nat){xs ys:Y14}(hx:eP M xs V)(hy:eP M ys W): ∀{fs:List Field}{r:Bool},mO P fs xs ys=some r->
  (Op.eqFields (n+1) V.toArray W.toArray fs).run P w= .ok r w
 | [],r,h=>by simp [mO]at h;subst h;rfl
 |f::fs,r,h=>by
  unfold mO at h;split at h
  .simp at h
  rename_i hn
  have hn' : f.name ≠ "_" := by simpa using hn
  split at h
  case h_2=>simp at h
  rename_i d x y h1 h2 h3;obtain⟨a,ha,va⟩:=hx.get h2;obtain⟨b,hb,vb⟩:=hy.get h3;split at h
  .rename_i hs;have e1:=fE (P:=P) w h1 (eG hs) ha;have e2:=fE (P:=P) w h1 (eG hs) hb;have e3:=nS (P:=P) w n h1 hs va vb;simp only [Op.eqFields,if_pos hn',AT,e1,e2,e3,AL,GW,BA,if_false];exact uF n hx hy h
  .rename_i hs;simp at h;subst h;have e1:=fE (P:=P) w h1 (eG hs) ha;have e2:=fE (P:=P) w h1 (eG hs) hb;have e3:=nS (P:=P) w n h1 hs va vb;simp only [Op.eqFields,if_pos hn',AT,e1,e2,e3,AL,FJ,if_true,AZ]
  .simp at h
theorem wB(n:Nat){xs ys:Y14}(hx:eP M xs V)(hy:eP M ys W): ∀{fs:List Field}{r:Bool},nM P fs xs ys=some r->
  (Op.eqFields (n+2) V.toArray W.toArray fs).run P w= .ok r w
 | [],r,h=>by simp [nM]at h;subst h;rfl
 |f::fs,r,h=>by
  unfold nM at h;split at h
  .simp at h
  rename_i hn
  have hn' : f.name ≠ "_" := by simpa using hn
  split at h
  .rename_i gs hu;split at h
   case h_2=>simp at h
   rename_i us vs h2 h3;split at h
   .simp at h
   rename_i hg;obtain⟨a,ha,va⟩:=Bu (w:=w) hx h2;obtain⟨b,hb,vb⟩:=Bu (w:=w) hy h3;obtain⟨ru,rfl,cu⟩:=wT va;obtain⟨rv,rfl,cv⟩:=wT vb;have hf:P.fieldsOf f.type=gs:=by simp [Program.fieldsOf,hu]
   have e0:=run_equalIn_struct (P:=P) w (n+1) f.type ru.toArray rv.toArray (by rw [hf];exact hu) (by simpa using hg);rw [hf]at e0;split at h
   .rename_i hs;have e3:=e0.trans (uF w n cu cv hs);simp only [Op.eqFields,if_pos hn',AT,ha,hb,e3,AL,GW,BA,if_false];exact wB n hx hy h
   .rename_i hs;simp at h;subst h;have e3:=e0.trans (uF w n cu cv hs);simp only [Op.eqFields,if_pos hn',AT,ha,hb,e3,AL,FJ,if_true,AZ]
   .simp at h
  .rename_i d hns h1;split at h
   case h_2=>simp at h
   rename_i x y h2 h3;obtain⟨a,ha,va⟩:=hx.get h2;obtain⟨b,hb,vb⟩:=hy.get h3;split at h
   .rename_i hs;have e1:=fE (P:=P) w h1 (eG hs) ha;have e2:=fE (P:=P) w h1 (eG hs) hb;have e3:=nS (P:=P) w (n+1) h1 hs va vb;simp only [Op.eqFields,if_pos hn',AT,e1,e2,e3,AL,GW,BA,if_false];exact wB n hx hy h
   .rename_i hs;simp at h;subst h;have e1:=fE (P:=P) w h1 (eG hs) ha;have e2:=fE (P:=P) w h1 (eG hs) hb;have e3:=nS (P:=P) w (n+1) h1 hs va vb;simp only [Op.eqFields,if_pos hn',AT,e1,e2,e3,AL,FJ,if_true,AZ]
   .simp at h
  .simp at h
theorem a6M{c:Bool}{t:TypeId}{x y:IV}{r:Bool}{a b:Value}(op:BinOp)(m u:Operand)(L:c=(nH m||nH u))(h:b1A P c t x y=some r)(j:VR M x a)(l:VR M y b):
  (Op.equal t a b).run P w= .ok r w/\(eqGuard op t m u a b).run P w= .ok () w:=by
 unfold b1A at h
 cases hu:P.underlying t with
 |none=>simp [hu]at h
 |some d=>
  have base:dD d x y=some r->(Op.equal t a b).run P w= .ok r w/\(eqGuard op t m u a b).run P w= .ok () w:=by
   intro z;refine⟨nS w 9999 hu z j l,?_⟩;unfold dD at z;split at z
   .cases j;cases l;rw [eqGuard_at_bool];rfl
   .cases j;cases l;rw [eqGuard_at_int];rfl
   .cases j;cases l;rw [eqGuard_at_string];rfl
   .simp at z
  have g: ∀(k:Nat),(∀n,(Op.equalIn (n+1) t a b).run P w= .ok r w)->(Op.equal t a b).run P w= .ok r w:=λ_ O=>O 9999
  simp only [hu]at h
  cases d<;>simp only at h<;>first|exact base h|skip
  case struct fs=>
   split at h
   case h_2=>simp at h
   rename_i xs V;split at h
   .simp at h
   rename_i A;simp only [CL,not_or,IF]at A;obtain⟨R,rfl,G⟩:=wT j;obtain⟨T,rfl,K⟩:=wT l;refine⟨?_,run_eqGuard_agg w op t m u _ _ A.2⟩;have hf:P.fieldsOf t=fs:=by simp [Program.fieldsOf,hu]
   have:=run_equalIn_struct (P:=P) w 9999 t R.toArray T.toArray (by rw [hf];exact hu) A.1;rw [hf]at this;show(Op.equalIn (9999+1) t _ _).run P w=_;rw [this];exact wB w 9997 G K h
  case pointer e=>
   split at h
   all_goals (first| (simp at h;done)|skip)
   all_goals
    simp only [AC]at h;subst h
    cases j
    cases l
    refine⟨g 9999 (by intro n;simp [Op.equalIn,run_underlying hu]),by rw [eqGuard_at_pointer];rfl⟩
  case interface ms=>
   split at h
   case h_1=>
    split at h
    case isFalse=>simp at h
    rename_i i;simp at h;subst h;cases j;cases l;refine⟨g 9999 (by intro n;simp [Op.equalIn,run_underlying hu]),?_⟩;rw [L,CL]at i;have:((match m with| .const _=>true|_=>false)|| (match u with| .const _=>true|_=>false))=true:=by
     rcases i with i|i<;>(unfold nH at i;split at i<;>simp_all)
    cases m<;>cases u<;>first| (simp [nH]at i;done)| (cases op<;>rfl)
   all_goals (first| (simp at h;done)|skip)
   all_goals
    simp only [AC]at h;subst h
    cases j
    cases l
    refine⟨g 9999 (by intro n;simp [Op.equalIn,run_underlying hu]),by cases op<;>rfl⟩
  case slice e=>
   split at h
   all_goals (first| (simp at h;done)|skip)
   case h_4=>
    split at h
    case isFalse=>simp at h
    rename_i D;simp only [AC]at h;subst h
    cases j
    cases l
    .simp at D
    .refine⟨g 9999 (by intro n;simp [Op.equalIn,run_underlying hu]),by rw [eqGuard_at_slice];rfl⟩
   case h_5=>
    split at h
    case isFalse=>simp at h
    rename_i D;simp only [AC]at h;subst h
    cases l
    cases j
    .simp at D
    .refine⟨g 9999 (by intro n;simp [Op.equalIn,run_underlying hu]),by rw [eqGuard_at_slice];rfl⟩
   all_goals
    simp only [AC]at h;subst h
    cases j
    cases l
    refine⟨g 9999 (by intro n;simp [Op.equalIn,run_underlying hu]),by rw [eqGuard_at_slice];rfl⟩
  case map k e=>
   split at h
   all_goals (first| (simp at h;done)|skip)
   all_goals
    simp only [AC]at h;subst h
    cases j
    cases l
    refine⟨g 9999 (by intro n;simp [Op.equalIn,run_underlying hu]),by rw [eqGuard_at_map];rfl⟩
  case func ps rs vr=>
   split at h
   all_goals (first| (simp at h;done)|skip)
   all_goals
    simp only [AC]at h;subst h
    cases j
    cases l
    refine⟨g 9999 (by intro n;simp [Op.equalIn,run_underlying hu]),by first| (rw [eqGuard_at_nilFunc];rfl)| (rw [eqGuard_at_func];rfl)⟩
end
section
variable {P:Program} {M:Meta} (w:World)
theorem b2K{t:TypeId}{x y:IV}{a b:Value}(l:VR M x a)(g:VR M y b)(i: ∀k p k' q,¬ (x= .int k p/\y= .int k' q))(j: ∀p q,¬ (x= .str p/\y= .str q)):
  binOp .eql t a b=(do pure (.bool (<-Op.equal t a b)))/\binOp .neq t a b=(do pure (.bool (!(<-Op.equal t a b)))):=by
 cases l
 case int k n=>
  cases g
  case int k' m=>exact absurd ⟨rfl,rfl⟩ (i k n k' m)
  all_goals exact⟨by simp [binOp],by simp [binOp]⟩
 case str p=>
  cases g
  case str q=>exact absurd ⟨rfl,rfl⟩ (j _ _)
  all_goals exact⟨by simp [binOp],by simp [binOp]⟩
 all_goals exact⟨by simp [binOp],by simp [binOp]⟩
theorem b4P{op:BinOp}{c:Bool}{t:TypeId}{x y v:IV}{a b:Value}(l m:Operand)(D:c=(nH l||nH m))(z:VR M x a)(A:VR M y b)(h:qV P op c t x y=some v):
  ∃r,(do eqGuard op t l m a b;binOp op t a b:Sem Value).run P w= .ok r w/\VR M v r:=by
 unfold qV at h;split at h
 .rename_i k p j q
  cases z;cases A
  have u:(eqGuard op t l m (.int k p) (.int j q)).run P w= .ok () w:=by rw [eqGuard_at_int];rfl
  split at h
  .obtain⟨r,h1,h2⟩:=J3 (P:=P) (M:=M) (yk:=j) w t (.inl rfl) h;exact⟨r,by simp only [AT,u,AL];exact h1,h2⟩
  .obtain⟨r,h1,h2⟩:=J3 (P:=P) (M:=M) (yk:=j) w t (.inr rfl) h;exact⟨r,by simp only [AT,u,AL];exact h1,h2⟩
  .split at h
   .rename_i hk;subst hk;obtain⟨r,h1,h2⟩:=a4G (P:=P) (M:=M) w t h;exact⟨r,by simp only [AT,u,AL];exact h1,h2⟩
   .simp at h
 .cases z with|str p=>cases A with|str q=>
  have u:(eqGuard op t l m (.string p) (.string q)).run P w= .ok () w:=by rw [eqGuard_at_string];rfl
  obtain⟨r,h1,h2⟩:=a4I (P:=P) (M:=M) w t h;exact⟨r,by simp only [AT,u,AL];exact h1,h2⟩
 .rename_i L O;have G: ∀k p j q,¬ (x= .int k p/\y= .int j q):=λk p j q ⟨g,i⟩=>L k p j q g i
  have K: ∀p q,¬ (x= .str p/\y= .str q):=λp q ⟨g,i⟩=>O p q g i
  obtain⟨R,T⟩:=b2K (t:=t) z A G K;split at h
  .obtain⟨r,h1,h2⟩:=AD.1 h;subst h2;obtain⟨g,i⟩:=a6M (P:=P) w .eql l m D h1 z A;exact⟨.bool r,by simp only [AT,i,AL,R,g,AZ],.bool _⟩
  .obtain⟨r,h1,h2⟩:=AD.1 h;subst h2;obtain⟨g,i⟩:=a6M (P:=P) w .neq l m D h1 z A;exact⟨.bool !r,by simp only [AT,i,AL,T,g,AZ],.bool _⟩
  .simp at h
theorem d1K{op:UnOp}{x v:IV}{a:Value}(g:VR M x a)(h:e3Z op x=some v): ∃r,(Op.unary op a).run P w= .ok r w/\VR M v r:=by
 unfold e3Z at h;split at h
 .simp only [AC]at h;subst h;cases g;exact⟨_,by simp only [Op.unary,Op.intArith];rfl,.int _ _⟩
 .rename_i k n;simp only [wG,AC]at h;subst h;cases g;exact⟨_,by simp only [Op.unary,Op.intBits];rfl,.int _ _⟩
 .simp at h;subst h;cases g;exact⟨_,by simp only [Op.unary];rfl,.bool _⟩
 .simp at h
theorem Cs: ∀{cs:Y14}{rc:List Value}{b:Y11},cU M cs rc->oN cs=some b-> ∃g:Y12,rc=g.map (Value.int .u8)/\b=g.map λn=>UInt8.ofNat n.toNat
 | [],rc,b,hv,h=>by
  cases rc with
  |nil=>simp [oN]at h;subst h;exact⟨[],rfl,rfl⟩
  |cons r rs=>simp [cU]at hv
 |x::cs,rc,b,hv,h=>by
  obtain⟨r,l,rfl,h1,h2⟩:=hv.uncons;unfold oN at h;split at h
  case h_1 e=>simp at e
  case h_2 n r' e=>
   simp only [BE]at e;obtain⟨rfl,rfl⟩:=e;obtain⟨m,h3,h4⟩:=AD.1 h;subst h4
   cases h1
   obtain⟨g,i,j⟩:=Cs h2 h3;exact⟨n::g,by simp [i],by simp [j]⟩
  case h_3=>simp at h
theorem rZ{cs:Y14}{rc:List Value}{b:Y11}{a:Addr}{cap:Nat}(g:cU M cs rc)(h:oN cs=some b)
  (hm:(loadCells a rc.length).run P w= .ok rc.toArray w):(Conv.bytesToString (.slice (some a) rc.length cap)).run P w= .ok (.string ⟨b.toArray⟩) w:=by
 obtain⟨i,h1,h2⟩:=Cs g h;rw [run_bytesToString w a rc.length cap i (by rw [hm,h1]),foldl_push_bytes,h2];show Result.ok (Value.string ⟨#[]++_⟩) w=_;simp
theorem H3{rc:List Value}{b base:Nat}(h:At w b base rc):(loadCells ⟨b,base,none⟩ rc.length).run P w= .ok rc.toArray w:=
 run_loadCells_list (P:=P) w ⟨b,base,none⟩ rc (λj v g=>by
  obtain⟨hk,rfl⟩:=BT.1 g;rw [dB];exact h _ hk)
theorem b0R{s d:TypeId}{x v:IV}{a:Value}(y: ∀b o u,M.im b o=some u->w.cell? ⟨b,o,none⟩=some u)(l:VR M x a)(h:Ql P s d x=some v):
  ∃r,(convert s d a).run P w= .ok r w/\VR M v r:=by
 unfold Ql at h
 cases hs:P.underlying s with
 |none=>simp [hs]at h
 |some ds=>
  cases hd:P.underlying d with
  |none=>simp [hs,hd]at h
  |some dd=>
   simp only [hs,hd]at h;split at h
   .simp only [AC]at h;subst h;cases l;exact⟨_,by simp [convert,run_underlying hs,run_underlying hd,Conv.intToInt],.int _ _⟩
   .simp only [AC]at h;subst h;cases l;exact⟨_,by simp [convert,run_underlying hs,run_underlying hd],.str _⟩
   .split at h
    case h_2=>simp at h
    rename_i e;split at h
    case h_2=>simp at h
    rename_i m;split at h
    .simp only [AC]at h;subst h;cases l;refine⟨_,by rw [run_convert_bytes_string w s d e _ _ _ hs m hd];rfl,?_⟩;exact VR.str (M:=M) ByteArray.empty
    .rename_i L e' len cs z;clear z;obtain⟨b,h1,h2⟩:=AD.1 h;subst h2
     cases l with
     |vnil=>
      simp only [oN,AC]at h1;subst h1;refine⟨_,by rw [run_convert_bytes_string w s d e _ _ _ hs m hd];rfl,?_⟩;exact VR.str (M:=M) ByteArray.empty
     | @vslice _ _ _ _ cap _ a rv hn hlen ha him' hv hc ht hf=>
      refine⟨.string ⟨b.toArray⟩,?_,c4W b⟩;rw [run_convert_bytes_string w s d e _ _ _ hs m hd];have g:cap=0\/a.spot=none:=ha.imp id (·.1);have K:cU M cs ((List.range cs.length).map rv):=⟨KB,λi p q=>by simpa using hv i p⟩;have G:((List.range cs.length).map rv).length=len:=by simp [hn]
      rw [<-G];refine rZ w K h1 ?_
      by_cases h0:cs.length=0
      .simp [h0,loadCells,loadCellsFrom]
      .have j:a.spot=none:=by
        rcases g with g|g
        .omega
        .exact g
       obtain⟨O,R,D⟩:=a;simp only at j;subst j;exact H3 w (λi A=>by simp at A;simpa using y _ _ _ (him' i A))
    .simp at h
   .simp at h
theorem tZ{tv:Option TV}{n:Int}(h:Lw tv=some n): ∃k,tv=some (.v (.int k n)):=by
 unfold Lw at h;split at h
 .simp at h;subst h;exact⟨_,rfl⟩
 .simp at h
theorem wQ{k:IntKind}{i:Int}{y:Nat}{g:BoundsCode}(h:0<=i/\i<=y):(Instr.sliceBound (.int k i) y g).run P w= .ok i.toNat w:=by
 simp [Instr.sliceBound,asIntOf,h]
def BR(M:Meta):Option (Option TV)->Option Value->Prop
 |none,none=>True
 |some (some (.v x)),some r=>VR M x r
 |some (some (.l _ _)),some _=>True
 |some (some .u),some _=>True
 |some none,some _=>True
 |_,_=>False
theorem Up{o:Option (Option TV)}{r:Option Value}{d n:Int}(e:(match o with|none=>some d|some x=>Lw x)=some n)(b:BR M o r):
  (r=none/\d=n) \/ ∃k,r=some (.int k n):=by
 cases o with
 |none=>
  cases r with
  |none=>simp at e;exact .inl ⟨rfl,e⟩
  |some r=>exact b.elim
 |some tv=>
  obtain⟨k,rfl⟩:=tZ e
  cases r with
  |none=>exact b.elim
  |some r=>cases b;exact .inr ⟨k,rfl⟩
theorem lN{isSlice:Bool}{len cap l h:Nat}{lo z:Option (Option TV)}{m j:Option Value}(O:len<=cap)(u:BR M lo m)(r:BR M z j)(i:jJ len lo z=some (l,h)):
  l<=h/\h<=len/\(Instr.sliceBounds isSlice len cap m j none).run P w= .ok (l,h,cap) w:=by
 unfold jJ at i;simp only at i;split at i
 case h_2=>simp at i
 rename_i A h' G K;split at i
 case isFalse=>simp at i
 rename_i L;obtain⟨R,T,V⟩:=L;simp only [AC,BX]at i;obtain⟨rfl,rfl⟩:=i;refine⟨JZ,JZ,?_⟩;have r1: ∀k g,(Instr.sliceBound (.int k h') cap g).run P w= .ok h'.toNat w:=λk g=>wQ w ⟨JZ,JZ⟩
 have y: ∀k g,(Instr.sliceBound (.int k A) h'.toNat g).run P w= .ok A.toNat w:=λk g=>wQ w ⟨JZ,JZ⟩
 rcases Up G u with⟨rfl,q1⟩| ⟨k1,rfl⟩<;>rcases Up K r with⟨rfl,D⟩| ⟨X,rfl⟩
 .subst q1;subst D;simp [Instr.sliceBounds]
 .subst q1;simp [Instr.sliceBounds,r1]
 .subst D;simp only [AK]at y;simp [Instr.sliceBounds,y]
 .simp [Instr.sliceBounds,r1,y]
end
section
variable {P:Program} {M:Meta} (w:World)
theorem dT{t:TypeId}{n:Nat}(h:iN P t=some n): ∃i,P.info? t=some i/\i.size=n:=by
 unfold iN at h;obtain⟨i,h1,h2⟩:=AD.1 h;exact⟨i,h1,h2⟩
theorem oO{t:TypeId}{n:Nat}(h:kL P t=some n): ∃i,P.info? t=some i/\i.bytes=n:=by
 unfold kL at h;obtain⟨i,h1,h2⟩:=AD.1 h;exact⟨i,h1,h2⟩
theorem fH{t:TypeId}{z:IV}(h:dA P t=some z): ∃i r,P.info? t=some i/\i.zero=some r/\VR M z r/\uR z=true:=by
 unfold dA at h;obtain⟨r,h1,h2⟩:=CJ.1 h;obtain⟨i,h3,h4⟩:=CJ.1 h1;exact⟨i,r,h3,h4,(D2 (M:=M) h2).1,(D2 (M:=M) h2).2⟩
theorem Mc{id:Y10}{e len sz l h cap:Nat}{cs:Y14}{a:Option Addr}(Y:VR M (.vslice id e len sz cs) (.slice a len cap))(X:l<=h)(hh:h<=len):
  VR M (.vslice id (e- (len-h)*sz) (h-l) sz ((cs.drop (l*sz)).take ((h-l)*sz))) (.slice (if cap=l then a else a.map (·.add (l*sz))) (h-l) (cap-l)):=by
 cases Y with
 |vnil=>
  obtain rfl:h=0:=JZ;obtain rfl:l=0:=JZ;simpa using VR.vnil
 |vslice a rv hn hlen ha him hv hc ht hf=>
  have K:l*sz+(h-l)*sz=h*sz:=by rw [<-Nat.add_mul];congr 1;omega
  have A:h*sz+(len-h)*sz=len*sz:=by rw [<-Nat.add_mul];congr 1;omega
  have g:((cs.drop (l*sz)).take ((h-l)*sz)).length=(h-l)*sz:=by simp;omega
  have r:id=none->e- (len-h)*sz=0\/ (e- (len-h)*sz=1/\cap-l=h-l/\0<sz):=by
   intro y;rcases hf y with rfl| ⟨rfl,rfl,h0⟩
   .exact .inl JZ
   .by_cases hhl:h=cap
    .exact .inr ⟨by subst hhl;simp,JZ,h0⟩
    .have:1*1<=(cap-h)*sz:=JC JZ h0;exact .inl JZ
  by_cases hcap:cap=l
  .have m:h-l=0:=JZ;rw [if_pos hcap];refine .vslice a (λ_=>undef) g JZ (.inl JZ) ?_ ?_ ?_ ?_ r
   .intro i j;rw [g,m]at j;omega
   .intro i j;rw [g,m]at j;omega
   .intro i j;rw [g,m]at j;omega
   .intro i j;obtain⟨h1,h0,h2,h3⟩:=ht i j;rw [g,m];exact⟨h1,JZ,JZ,λ_=> .inl JZ⟩
  .rw [if_neg hcap];have G:a.spot=none/\∃n,M.bsz a.block=some n/\a.off+cap*sz<=n:=ha.resolve_left JZ
   obtain⟨O,R,T⟩:=a;obtain⟨L,n,V,z⟩:=G;simp only at L;subst L;simp only [DC,dB];have D:l*sz+(cap-l)*sz=cap*sz:=by rw [<-Nat.add_mul];congr 1;omega
   refine .vslice ⟨O,R+l*sz,none⟩ (λi=>rv (l*sz+i)) g JZ (.inr ⟨rfl,n,V,by simp only at z⊢;omega⟩) ?_ ?_ ?_ ?_ r
   .intro i j;rw [g]at j;have:=him (l*sz+i) JZ;simpa [EY]using this
   .intro i j;rw [g]at j;simp only [GO,GM];exact hv _ _
   .intro i j;simp only [GO,GM];exact hc _ _
   .intro i j;obtain⟨h1,h0,h2,h3⟩:=ht i j;refine⟨h1,by rw [g];omega,JZ,λZ=>?_⟩;have u:e=M.tip i:=JZ;rcases h3 u with h3|h3
    .have:cap=l:=JZ;exact absurd this hcap
    .refine .inr ?_;rw [h3,g];simp only [BX,true_and];omega
theorem B1{id g len sz l h cap:Nat}{a:Addr}(u:VR M (.hslice id g len sz) (.slice (some a) len cap))(r:l<=h)(y:h<=len):
  VR M (.hslice id (g+l*sz) (h-l) sz) (.slice (if cap=l then some a else(some a).map (·.add (l*sz))) (h-l) (cap-l)):=by
 cases u with
 | @hslice _ _ _ _ _ b _ hl ha hlen=>
  by_cases hcap:cap=l
  .rw [if_pos hcap];exact .hslice a hl (.inl JZ) JZ
  .rw [if_neg hcap];obtain⟨rfl,n,j,m⟩:=ha.resolve_left JZ;simp only [DC,dB];have i:l*sz+(cap-l)*sz=cap*sz:=by rw [<-Nat.add_mul];congr 1;omega
   exact .hslice _ hl (.inr ⟨rfl,n,j,JZ⟩) JZ
theorem vA{id:Y10}{e len sz:Nat}{cs:Y14}{r:Value}(g:VR M (.vslice id e len sz cs) r): ∃a cap,r= .slice a len cap/\len<=cap/\cs.length=len*sz:=by
 cases g with
 |vslice a rv hn hlen=>exact⟨some a,_,rfl,hlen,hn⟩
 |vnil=>exact⟨none,0,rfl,AF _,KB⟩
theorem uI{id g len sz:Nat}{r:Value}(i:VR M (.hslice id g len sz) r): ∃a cap,r= .slice (some a) len cap/\len<=cap:=by
 cases i with
 |hslice a hl ha hlen=>exact⟨a,_,rfl,hlen⟩
theorem a4M{t:TypeId}{x v:IV}{a:Value}{lo T:Option (Option TV)}{D A:Option Value}(K:VR M x a)(j:BR M lo D)(g:BR M T A)(h:uX P t x lo T=some v):
  ∃r,(Instr.sliceAt t a D A none).run P w= .ok r w/\VR M v r:=by
 unfold uX at h
 cases hu:P.underlying t with
 |none=>simp [hu]at h
 |some d=>
  simp only [hu]at h
  cases d<;>simp only at h<;>first| (simp at h;done)|skip
  case string=>
   split at h
   case h_2=>simp at h
   obtain⟨⟨l,k⟩,h1,h2⟩:=AD.1 h;subst h2
   cases K with|str s=>
   obtain⟨L,G,m⟩:=lN (P:=P) (isSlice:=false) w (AF _) j g h1;simp only [EV]at G m;refine⟨.string (s.extract l k),?_,?_⟩
   .simp only [Instr.sliceAt,AT,run_underlying hu,AL,Instr.slice];have R:(Instr.sliceBounds false s.size s.size D A none).run P w= .ok (l,k,s.size) w:=m;simp [R]
   .have:=VR.str (M:=M) (s.extract l k)
    rwa [show(s.extract l k).data.toList=(s.data.toList.drop l).take (k-l)from by simp [ByteArray.data_extract,FY]]at this
  case slice e=>
   cases hz:iN P e with
   |none=>simp [hz]at h
   |some sz=>
    obtain⟨i,u,O⟩:=dT hz;simp only [hz]at h;split at h
    .obtain⟨⟨l,k⟩,h1,h2⟩:=AD.1 h;subst h2
     cases K
     obtain⟨L,G,m⟩:=lN (P:=P) (isSlice:=true) w (AF _) j g h1;have X:l=0:=JZ;have hk:k=0:=JZ;subst X;subst hk;exact⟨.slice none 0 0,by simp [Instr.sliceAt,Instr.slice,run_underlying hu,m,cG u],.nilslice⟩
    .split at h
     case isFalse=>simp at h
     rename_i z;subst z;obtain⟨⟨l,k⟩,h1,h2⟩:=AD.1 h;subst h2;obtain⟨V,cap,rfl,y⟩:=uI K;obtain⟨L,G,m⟩:=lN (P:=P) (isSlice:=true) w y j g h1;exact⟨_,by simp only [Instr.sliceAt,Instr.slice,AT,run_underlying hu,AL,m,cG u,O,AZ],B1 K L G⟩
    .split at h
     case isFalse=>simp at h
     rename_i z;subst z;obtain⟨⟨l,k⟩,h1,h2⟩:=AD.1 h;subst h2;obtain⟨V,cap,rfl,y,Y⟩:=vA K;obtain⟨L,G,m⟩:=lN (P:=P) (isSlice:=true) w y j g h1;exact⟨_,by simp only [Instr.sliceAt,Instr.slice,AT,run_underlying hu,AL,m,cG u,O,AZ],Mc K L G⟩
    .simp at h
def TR(M:Meta)(pb:Nat->Nat):TV->Value->Prop
 | .v x,r=>VR M x r
 | .l s off,r=>r= .pointer (some ⟨pb s,off,none⟩)
 | .u,r=>r=undef
theorem Z4{pb:Nat->Nat}{n:Nat}{x y:TV}{r:Value}(h:pC n x=some y)(i:TR M pb x r): ∃a,r= .pointer (some a)/\TR M pb y (.pointer (some (a.add n))):=by
 unfold pC at h;split at h
 .simp at h;subst h;exact⟨_,i,by simp [TR,dB]⟩
 .simp at h;subst h
  cases i with|ptr l=>exact⟨_,rfl,by simpa [TR,dB]using VR.ptr l⟩
 .simp at h;subst h
  cases i with|vref rv g m j=>exact⟨_,rfl,by simpa [TR,dB,EY]using VR.vref rv g m j⟩
 .simp at h
end
section
variable {P:Program} {M:Meta} (w:World)
theorem Fi{tv:Option TV}{x:IV}(h:bH tv=some x):tv=some (.v x):=by
 unfold bH at h;split at h
 .simp at h;subst h;rfl
 .simp at h
section
variable {pb:Nat->Nat} {ev:Operand->Option TV} {ρ:Operand->Value} (hev: ∀x tv,ev x=some tv->TR M pb tv (ρ x))
include hev
theorem bG{x:Operand}{v:IV}(h:bH (ev x)=some v):VR M v (ρ x):=hev _ _ (Fi h)
theorem oY: ∀{l:List Operand}{xs:Y14},rQ (l.map ev)=some xs->cU M xs (l.map ρ)
 | [],xs,h=>by simp [rQ]at h;subst h;exact cU.nil M
 |x::l,xs,h=>by
  simp only [BN]at h⊢;unfold rQ at h;split at h
  .rename_i v vs h1 h2;simp at h;subst h;exact cU.cons (bG hev h1) (oY h2)
  .simp at h
theorem F4: ∀{l:List (Nat×Operand)}{ps:List (Nat×IV)},kY (l.map λ(i,x)=>(i,ev x))=some ps->PR M ps (l.map λ(i,x)=>(i,ρ x))
 | [],ps,h=>by simp [kY]at h;subst h;trivial
 | (i,x)::l,ps,h=>by
  simp only [BN]at h⊢;unfold kY at h;split at h
  .rename_i v vs h1 h2;simp at h;subst h;exact⟨rfl,bG hev h1,F4 h2⟩
  .simp at h
theorem F3(o:Option Operand):BR M (o.map ev) (o.map ρ):=by
 cases o with
 |none=>trivial
 |some x=>
  cases h:ev x with
  |none=>simp [BR,h]
  |some tv=>
   have:=hev _ _ h
   cases tv with
   |v y=>simpa [BR,h,TR]using this
   |l s off=>simp [BR,h]
   |u=>simp [BR,h]
end
theorem a4H(g:List Field)(h:g.all (λx=>(P.info? x.type).isSome)=true):
  (g.mapM (m:=Sem) λf=>do pure (f.offset,<-sizeOf f.type)).run P w= .ok (g.map λx=>(x.offset,P.cellsOf x.type)) w:=by
 induction g with
 |nil=>simp
 |cons f g ih=>
  simp only [EZ,AE]at h;obtain⟨i,l⟩:=Option.isSome_iff_exists.1 h.1;have j:=ih h.2;simp only [JD,AT,cG l,AL,AZ,j];simp [Program.cellsOf,l]
theorem cJ{t:TypeId}{i:TypeInfo}{r:Value}(h:P.info? t=some i)(g:i.zero=some r):(zeroValue t).run P w= .ok r w:=by
 simp [zeroValue,typeInfo,h,g]
theorem Uq{t:TypeId}{z:IV}{ps:List (Nat×IV)}{g:Array (Nat×Value)}(X:dA P t=some z)(R:PR M ps g.toList){cs:Y14}
  (h:(∃l,P.underlying t=some (.struct l)/\l.toList.all (λx=>(P.info? x.type).isSome)=true/\qW (Bv P l) (cellsOf z) ps=some cs) \/
   (∃n e sz,P.underlying t=some (.array n e)/\iN P e=some sz/\qW (λi=>some (i*sz,sz)) (cellsOf z) ps=some cs)):
  ∃r,(Instr.build t g).run P w= .ok r w/\VR M (.agg cs) r:=by
 obtain⟨i,r,h1,h2,h3,h4⟩:=fH (M:=M) X;have O:=lR h3 h4;rcases h with⟨l,L,T,hf⟩| ⟨n,e,sz,L,V,hf⟩
 .obtain⟨u,y,A⟩:=G4 R O hf;have hm:(l.mapM (m:=Sem) λf=>do pure (f.offset,<-sizeOf f.type)).run P w= .ok (l.map λx=>(x.offset,P.cellsOf x.type)) w:=by
   rw [HY];simp only [Sem.run_map,a4H w l.toList T,AL]
   congr 1
   apply EL;simp
  refine⟨.agg u,?_,by simpa using jM A⟩;have K:(λi=>(l.map λx=>(x.offset,P.cellsOf x.type))[i]?)=Bv P l:=by
   funext j;simp [Bv]
  simp only [Instr.build,AT,cJ w h1 h2,AL,run_underlying L,hm];have:Instr.fill (λx=>(l.map λx=>(x.offset,P.cellsOf x.type))[x]?) r.cells g.toList=some u:=by rw [K];exact y
  rw [this];rfl
 .obtain⟨u,y,A⟩:=G4 R O hf;obtain⟨j,D,G⟩:=dT V;refine⟨.agg u,?_,by simpa using jM A⟩;simp only [Instr.build,AT,cJ w h1 h2,AL,run_underlying L,cG D,G,y,AZ]
theorem F5{t:TypeId}{f:Nat}(h:Bm P t f=some (T,i)): ∃g x,P.underlying t=some (.struct g)/\g[f]?=some x/\x.type=T/\x.offset=i:=by
 unfold Bm at h;split at h
 .rename_i g j;obtain⟨x,h1,h2⟩:=AD.1 h;simp at h2;exact⟨g,x,j,h1,h2.1,h2.2⟩
 .simp at h
theorem Ve: ∀{xs:Y14}{rs:List Value}{x v:IV}{r:Value},VR M x r->cU M xs rs->F8 min2 x xs=some v-> ∃s,(rs.foldlM Builtin.min2 r).run P w= .ok s w/\VR M v s
 | [],rs,x,v,r,hx,hs,h=>by
  cases rs with
  |nil=>simp [F8]at h;subst h;exact⟨r,KB,hx⟩
  |cons _ _=>simp [cU]at hs
 |y::ys,rs,x,v,r,hx,hs,h=>by
  obtain⟨q,i,rfl,h1,h2⟩:=hs.uncons;unfold F8 at h;split at h
  .rename_i z g;unfold min2 at g;split at g
   .simp at g;subst g
    cases hx;cases h1
    obtain⟨s,h3,h4⟩:=Ve (.int _ _) h2 h;exact⟨s,by simp only [List.foldlM_cons,Builtin.min2,AT,AZ,AL];exact h3,h4⟩
   .simp at g
  .simp at h
theorem Vd: ∀{xs:Y14}{rs:List Value}{x v:IV}{r:Value},VR M x r->cU M xs rs->F8 max2 x xs=some v-> ∃s,(rs.foldlM Builtin.max2 r).run P w= .ok s w/\VR M v s
 | [],rs,x,v,r,hx,hs,h=>by
  cases rs with
  |nil=>simp [F8]at h;subst h;exact⟨r,KB,hx⟩
  |cons _ _=>simp [cU]at hs
 |y::ys,rs,x,v,r,hx,hs,h=>by
  obtain⟨q,i,rfl,h1,h2⟩:=hs.uncons;unfold F8 at h;split at h
  .rename_i z g;unfold max2 at g;split at g
   .simp at g;subst g
    cases hx;cases h1
    obtain⟨s,h3,h4⟩:=Vd (.int _ _) h2 h;exact⟨s,by simp only [List.foldlM_cons,Builtin.max2,AT,AZ,AL];exact h3,h4⟩
   .simp at g
  .simp at h
theorem cB{P:Program}{s:Sem Value}{r:Value}(w w':World)(h:s.run P w= .ok r w'):((do pure (.value (<-s)):Sem Next).run P w)= .ok (.value r) w':=by
 simp only [AT,h,AL,AZ]
theorem Qm{P:Program}{s:Sem Unit}(w w':World)(h:s.run P w= .ok () w'):((do s;pure .skip:Sem Next).run P w)= .ok .skip w':=by
 simp only [AT,h,AL,AZ]
theorem rK{t:TypeId}{b:Bool}{P:Program}(h:G5 P t=some b): ∃d,P.underlying t=some d/\((∃i,d= .interface i) ↔ b=true):=by
 unfold G5 at h;split at h
 .rename_i i g;simp at h;subst h;exact⟨_,g,KB⟩
 .rename_i d j g;simp at h;subst h;exact⟨d,g,by simp;intro i e;subst e;exact j _ rfl⟩
 .simp at h
end
end Go.Pv
end
end
