/-
  Texts of this proof, one after the other.
  Conditions: none.
-/
import Derived.WalkKit
import Derived.Orders
import Derived.Laws.StructEq
import Derived.WalkSpells
import Derived.Laws.BytesArg
import Derived.Laws.BytesString
import Derived.Deep.AppendSrc
import Derived.Laws.AppendOwn
import Derived.Scope
import Derived.LoopN
import Derived.Below
import Derived.Carry
import Derived.ChangeSame
import Derived.RowKit
import Derived.LaidLaws
import Derived.Test.YtkonebkblgemkaaGreatChecked
import Derived.Eval
import Derived.KernelRfl
import Derived.IntWalk
import Derived.Test.YtkonebkblgemkaaGreatRows
import Derived.ProofKit
import Derived.OpenShut
set_option linter.unusedVariables false
set_option linter.unusedSimpArgs false
set_option maxRecDepth 100000
set_option maxHeartbeats 4000000
noncomputable section
namespace Go
theorem h0U:type_of% @List.getElem?_eq_getElem:=@List.getElem?_eq_getElem
theorem h0V:type_of% @Option.some.injEq:=@Option.some.injEq
theorem h0W:type_of% @Option.map_eq_some_iff:=@Option.map_eq_some_iff
theorem h0X:type_of% @Go.IntWalk.i64_in:=@Go.IntWalk.i64_in
theorem h0Y:type_of% @Bool.and_eq_true:=@Bool.and_eq_true
theorem h0Z:type_of% @Int.toNat_natCast:=@Int.toNat_natCast
theorem h1A:type_of% @List.getD_eq_getElem?_getD:=@List.getD_eq_getElem?_getD
theorem h1B:type_of% @List.getElem_mem:=@List.getElem_mem
theorem h1C:type_of% @Nat.lt_of_lt_of_le:=@Nat.lt_of_lt_of_le
theorem h1D:type_of% @Nat.le_refl:=@Nat.le_refl
theorem h1E:type_of% @List.length_append:=@List.length_append
theorem h1F:type_of% @Go.Result.andThen_ok:=@Go.Result.andThen_ok
theorem h1G:type_of% @Nat.lt_succ_self:=@Nat.lt_succ_self
theorem h1H:type_of% @List.take_of_length_le:=@List.take_of_length_le
theorem h1I:type_of% @Nat.eq_of_beq_eq_true:=@Nat.eq_of_beq_eq_true
theorem h1J:type_of% @List.take_succ_eq_append_getElem:=@List.take_succ_eq_append_getElem
theorem h1K:type_of% @Go.Sem.run_bind:=@Go.Sem.run_bind
theorem h1L:type_of% @Bool.and_true:=@Bool.and_true
theorem h1M:type_of% @Option.some.inj:=@Option.some.inj
theorem h1N:type_of% @Nat.zero_le:=@Nat.zero_le
theorem h1O:type_of% @List.length_cons:=@List.length_cons
theorem h1P:type_of% @List.length_map:=@List.length_map
theorem h1Q:type_of% @Nat.zero_add:=@Nat.zero_add
theorem h1R:type_of% @Go.Sem.run_pure:=@Go.Sem.run_pure
theorem h1S:type_of% @Nat.ble_eq:=@Nat.ble_eq
theorem h1T:type_of% @Nat.lt_succ_of_lt:=@Nat.lt_succ_of_lt
theorem h1U:type_of% @List.length_nil:=@List.length_nil
theorem h1V:type_of% @List.getElem?_append_right:=@List.getElem?_append_right
theorem h1W:type_of% @Nat.mul_one:=@Nat.mul_one
theorem h1X:type_of% @Bool.false_eq_true:=@Bool.false_eq_true
theorem h1Y:type_of% @List.length_take:=@List.length_take
theorem h1Z:type_of% @List.getElem?_append_left:=@List.getElem?_append_left
theorem h2A:type_of% @List.getElem?_map:=@List.getElem?_map
theorem h2B:type_of% @List.getElem?_eq_some_iff:=@List.getElem?_eq_some_iff
theorem h2C:type_of% @List.mem_cons_self:=@List.mem_cons_self
theorem h2D:type_of% @Nat.lt_or_ge:=@Nat.lt_or_ge
theorem h2E:type_of% @List.getElem?_eq_none:=@List.getElem?_eq_none
theorem h2F:type_of% @Nat.le_trans:=@Nat.le_trans
theorem h2G:type_of% @Bool.true_and:=@Bool.true_and
theorem h2H:type_of% @List.map_cons:=@List.map_cons
theorem h2I:type_of% @List.cons.injEq:=@List.cons.injEq
theorem h2J:type_of% @List.mem_singleton:=@List.mem_singleton
theorem h2K:type_of% @Bool.not_eq_true':=@Bool.not_eq_true'
theorem h2L:type_of% @List.all_eq_true:=@List.all_eq_true
theorem h2M:type_of% @Prod.mk.injEq:=@Prod.mk.injEq
theorem h2N:type_of% @List.mem_cons_of_mem:=@List.mem_cons_of_mem
theorem h2O:type_of% @List.mem_cons:=@List.mem_cons
theorem h2P:type_of% @List.flatMap_cons:=@List.flatMap_cons
theorem h2Q:type_of% @Nat.mul_le_mul_right:=@Nat.mul_le_mul_right
theorem h2S:type_of% @List.mem_append:=@List.mem_append
theorem h2T:type_of% @Nat.le_of_ble_eq_true:=@Nat.le_of_ble_eq_true
theorem h2V:type_of% @List.append_assoc:=@List.append_assoc
theorem h2W:type_of% @Option.bind_eq_some_iff:=@Option.bind_eq_some_iff
theorem h2X:type_of% @Prod.mk.inj:=@Prod.mk.inj
theorem h2Y:type_of% @List.take_append_of_le_length:=@List.take_append_of_le_length
theorem h2Z:type_of% @Bool.or_eq_true:=@Bool.or_eq_true
theorem h3A:type_of% @Bool.not_eq_false':=@Bool.not_eq_false'
theorem h3B:type_of% @Nat.add_mul:=@Nat.add_mul
theorem h3C:type_of% @List.mem_of_getElem?:=@List.mem_of_getElem?
theorem h3D:type_of% @List.length_replicate:=@List.length_replicate
theorem h3E:type_of% @List.cons_append:=@List.cons_append
theorem h3F:type_of% @Array.getElem?_setIfInBounds:=@Array.getElem?_setIfInBounds
theorem h3G:type_of% @Array.getD_eq_getD_getElem?:=@Array.getD_eq_getD_getElem?
theorem h3H:type_of% @Nat.ne_of_gt:=@Nat.ne_of_gt
theorem h3I:type_of% @Array.getElem?_toList:=@Array.getElem?_toList
theorem h3J:type_of% @Int.emod_lt_of_pos:=@Int.emod_lt_of_pos
theorem h3K:type_of% @Int.emod_nonneg:=@Int.emod_nonneg
theorem h3L:type_of% @List.getElem?_take_of_lt:=@List.getElem?_take_of_lt
theorem h3M:type_of% @List.flatMap_append:=@List.flatMap_append
theorem h3N:type_of% @Int.tmod_eq_emod_of_nonneg:=@Int.tmod_eq_emod_of_nonneg
theorem h3O:type_of% @List.map_append:=@List.map_append
theorem h3P:type_of% @Int.le_refl:=@Int.le_refl
theorem h3Q:type_of% @Int.toNat_of_nonneg:=@Int.toNat_of_nonneg
theorem h3R:type_of% @List.length_set:=@List.length_set
theorem h3S:type_of% @Option.isSome_none:=@Option.isSome_none
theorem h3T:type_of% @List.ext_getElem?:=@List.ext_getElem?
theorem h3U:type_of% @List.nil_append:=@List.nil_append
theorem h3V:type_of% @List.append_nil:=@List.append_nil
theorem h3W:type_of% @Array.getElem?_modify:=@Array.getElem?_modify
theorem h3X:type_of% @List.eq_nil_of_length_eq_zero:=@List.eq_nil_of_length_eq_zero
theorem h3Y:type_of% @List.prefix_append:=@List.prefix_append
theorem h3Z:type_of% @Bool.false_and:=@Bool.false_and
theorem h4A:type_of% @List.getElem?_cons_succ:=@List.getElem?_cons_succ
theorem h4B:type_of% @List.size_toArray:=@List.size_toArray
theorem h4C:type_of% @Option.map_some:=@Option.map_some
theorem h4D:type_of% @List.map_nil:=@List.map_nil
theorem h4E:type_of% @Nat.le_succ:=@Nat.le_succ
theorem h4F:type_of% @List.prefix_refl:=@List.prefix_refl
theorem h4G:type_of% @List.not_mem_nil:=@List.not_mem_nil
theorem h4H:type_of% @List.getElem?_take:=@List.getElem?_take
theorem h4I:type_of% @List.getElem?_toArray:=@List.getElem?_toArray
theorem h4J:type_of% @List.drop_zero:=@List.drop_zero
theorem h4K:type_of% @Int.mul_le_mul_of_nonneg_right:=@Int.mul_le_mul_of_nonneg_right
theorem h4L:type_of% @List.mem_iff_getElem:=@List.mem_iff_getElem
theorem h4M:type_of% @List.mem_zipIdx_iff_getElem?:=@List.mem_zipIdx_iff_getElem?
theorem h4N:type_of% @List.getElem?_drop:=@List.getElem?_drop
theorem h4O:type_of% @List.mem_map:=@List.mem_map
theorem h4P:type_of% @Nat.ne_of_lt:=@Nat.ne_of_lt
theorem h4Q:type_of% @Nat.not_lt_zero:=@Nat.not_lt_zero
theorem h4R:type_of% @List.take_append_drop:=@List.take_append_drop
theorem h4S:type_of% @Bool.false_or:=@Bool.false_or
theorem h4T:type_of% @Int.fdiv_eq_ediv_of_nonneg:=@Int.fdiv_eq_ediv_of_nonneg
theorem h4U:type_of% @Int.tdiv_eq_ediv_of_nonneg:=@Int.tdiv_eq_ediv_of_nonneg
theorem h4V:type_of% @Array.ext':=@Array.ext'
theorem h4W:type_of% @List.replicate_succ':=@List.replicate_succ'
theorem h4X:type_of% @List.mem_of_mem_take:=@List.mem_of_mem_take
theorem h4Y:type_of% @List.set_eq_take_append_cons_drop:=@List.set_eq_take_append_cons_drop
theorem h4Z:type_of% @Array.length_toList:=@Array.length_toList
theorem h5A:type_of% @Nat.mul_le_mul_left:=@Nat.mul_le_mul_left
theorem h5B:type_of% @List.map_congr_left:=@List.map_congr_left
theorem h5C:type_of% @Nat.add_sub_cancel_left:=@Nat.add_sub_cancel_left
theorem h5D:type_of% @Nat.add_assoc:=@Nat.add_assoc
theorem h5E:type_of% @Bool.or_false:=@Bool.or_false
theorem h5F:type_of% @Nat.ne_of_beq_eq_false:=@Nat.ne_of_beq_eq_false
theorem h5G:type_of% @Int.mul_le_mul_of_nonneg_left:=@Int.mul_le_mul_of_nonneg_left
theorem h5H:type_of% @Array.size_append:=@Array.size_append
theorem h5I:type_of% @List.length_range:=@List.length_range
theorem h5J:type_of% @Nat.succ_pos:=@Nat.succ_pos
theorem h5K:type_of% @Nat.zero_mul:=@Nat.zero_mul
theorem h5L:type_of% @Int.lt_or_le:=@Int.lt_or_le
theorem h5M:type_of% @Bool.and_false:=@Bool.and_false
theorem h5N:type_of% @List.length_drop:=@List.length_drop
theorem h5O:type_of% @List.take_append:=@List.take_append
theorem h5P:type_of% @Option.getD_some:=@Option.getD_some
theorem h5Q:type_of% @List.take_length:=@List.take_length
theorem h5R:type_of% @Nat.pow_le_pow_right:=@Nat.pow_le_pow_right
theorem h5S:type_of% @List.take_prefix:=@List.take_prefix
theorem h5T:type_of% @List.all_cons:=@List.all_cons
theorem h5U:type_of% @Bool.and_self:=@Bool.and_self
theorem h5V:type_of% @Array.getElem?_push:=@Array.getElem?_push
theorem h5W:type_of% @List.getElem?_range:=@List.getElem?_range
theorem h5X:type_of% @List.replicate_succ:=@List.replicate_succ
theorem h5Y:type_of% @List.extract_eq_take_drop:=@List.extract_eq_take_drop
theorem h5Z:type_of% @Bool.eq_iff_iff:=@Bool.eq_iff_iff
theorem h6A:type_of% @List.mem_filterMap:=@List.mem_filterMap
theorem h6B:type_of% @Nat.succ_mul:=@Nat.succ_mul
theorem h6C:type_of% @Nat.eq_zero_or_pos:=@Nat.eq_zero_or_pos
theorem h6D:type_of% @Int.mul_comm:=@Int.mul_comm
theorem h6E:type_of% @Nat.sub_self:=@Nat.sub_self
theorem h6F:type_of% @Bool.false_ne_true:=@Bool.false_ne_true
theorem h6G:type_of% @Nat.testBit_or:=@Nat.testBit_or
theorem h6H:type_of% @List.mem_range:=@List.mem_range
theorem h6I:type_of% @List.getElem_drop:=@List.getElem_drop
theorem h6J:type_of% @List.getElem_take:=@List.getElem_take
theorem h6K:type_of% @List.flatten_cons:=@List.flatten_cons
theorem h6L:type_of% @List.getElem_cons_zero:=@List.getElem_cons_zero
theorem h6M:type_of% @List.getElem_cons_succ:=@List.getElem_cons_succ
theorem h6N:type_of% @Nat.le_of_succ_le_succ:=@Nat.le_of_succ_le_succ
theorem h6O:type_of% @Int.mul_assoc:=@Int.mul_assoc
theorem h6P:type_of% @List.map_take:=@List.map_take
theorem h6Q:type_of% @Array.all_eq_true_iff_forall_mem:=@Array.all_eq_true_iff_forall_mem
theorem h6R:type_of% @Nat.le_max_right:=@Nat.le_max_right
theorem h6S:type_of% @Nat.div_lt_iff_lt_mul:=@Nat.div_lt_iff_lt_mul
theorem h6T:type_of% @List.singleton_append:=@List.singleton_append
theorem h6U:type_of% @Nat.add_zero:=@Nat.add_zero
theorem h6V:type_of% @Nat.le_of_eq:=@Nat.le_of_eq
theorem h6W:type_of% @Nat.and_two_pow_sub_one_eq_mod:=@Nat.and_two_pow_sub_one_eq_mod
theorem h6X:type_of% @Nat.log2_eq_iff:=@Nat.log2_eq_iff
theorem h6Y:type_of% @Int.mul_le_mul_of_nonpos_right:=@Int.mul_le_mul_of_nonpos_right
theorem h6Z:type_of% @Int.tmod_nonneg:=@Int.tmod_nonneg
theorem h7A:type_of% @Bool.true_or:=@Bool.true_or
theorem h7B:type_of% @List.getElem?_replicate_of_lt:=@List.getElem?_replicate_of_lt
theorem h7C:type_of% @List.getElem_of_mem:=@List.getElem_of_mem
theorem h7D:type_of% @Array.toList_append:=@Array.toList_append
theorem h7E:type_of% @Array.toList_modify:=@Array.toList_modify
theorem h7F:type_of% @Go.IntWalk.u64_in:=@Go.IntWalk.u64_in
theorem h7G:type_of% @List.pairwise_cons:=@List.pairwise_cons
theorem h7H:type_of% @Array.toList_setIfInBounds:=@Array.toList_setIfInBounds
theorem h7I:type_of% @Array.getElem?_eq_some_iff:=@Array.getElem?_eq_some_iff
theorem h7J:type_of% @Array.getElem?_append_left:=@Array.getElem?_append_left
theorem h7K:type_of% @List.any_cons:=@List.any_cons
theorem h7L:type_of% @Nat.le_succ_of_le:=@Nat.le_succ_of_le
theorem h7M:type_of% @List.foldl_append:=@List.foldl_append
theorem h7N:type_of% @Array.mapM_eq_mapM_toList:=@Array.mapM_eq_mapM_toList
theorem h7O:type_of% @Nat.mod_lt:=@Nat.mod_lt
theorem h7P:type_of% @List.getElem_append_right:=@List.getElem_append_right
theorem h7Q:type_of% @Array.getElem?_eq_getElem:=@Array.getElem?_eq_getElem
theorem h7R:type_of% @Bool.not_eq_true:=@Bool.not_eq_true
theorem h7S:type_of% @Array.toList_map:=@Array.toList_map
theorem h7T:type_of% @List.getElem_append_left:=@List.getElem_append_left
theorem h7U:type_of% @List.map_toArray:=@List.map_toArray
theorem h7V:type_of% @Array.getElem?_replicate:=@Array.getElem?_replicate
theorem h7W:type_of% @List.length_filterMap_le:=@List.length_filterMap_le
theorem h7X:type_of% @Nat.sub_zero:=@Nat.sub_zero
theorem h7Y:type_of% @Nat.mul_comm:=@Nat.mul_comm
theorem h7Z:type_of% @List.flatMap_nil:=@List.flatMap_nil
theorem h8A:type_of% @Bool.not_not:=@Bool.not_not
theorem h8B:type_of% @List.getElem?_cons_zero:=@List.getElem?_cons_zero
theorem h8C:type_of% @List.getElem?_replicate:=@List.getElem?_replicate
theorem h8D:type_of% @List.foldl_cons:=@List.foldl_cons
theorem h8E:type_of% @Option.map_none:=@Option.map_none
theorem h8F:type_of% @Nat.min_eq_left:=@Nat.min_eq_left
theorem h8G:type_of% @Nat.le_max_left:=@Nat.le_max_left
theorem h8H:type_of% @Int.ediv_nonneg:=@Int.ediv_nonneg
theorem h8I:type_of% @Int.natAbs_tmod:=@Int.natAbs_tmod
theorem h8J:type_of% @List.drop_of_length_le:=@List.drop_of_length_le
theorem h8K:type_of% @List.take_take:=@List.take_take
theorem h8L:type_of% @Bool.not_false:=@Bool.not_false
theorem h8M:type_of% @List.mapM_cons:=@List.mapM_cons
theorem h8N:type_of% @Nat.le_div_iff_mul_le:=@Nat.le_div_iff_mul_le
theorem h8O:type_of% @Int.le_ediv_of_mul_le:=@Int.le_ediv_of_mul_le
theorem h8P:type_of% @List.getElem_set_self:=@List.getElem_set_self
theorem h8Q:type_of% @List.pairwise_append:=@List.pairwise_append
theorem h8R:type_of% @Int.emod_emod_of_dvd:=@Int.emod_emod_of_dvd
theorem h8S:type_of% @Bool.not_true:=@Bool.not_true
theorem h8T:type_of% @List.map_drop:=@List.map_drop
theorem h8U:type_of% @List.sum_cons:=@List.sum_cons
theorem h8V:type_of% @List.getElem_append:=@List.getElem_append
theorem h8W:type_of% @List.take_succ_cons:=@List.take_succ_cons
theorem h8X:type_of% @List.take_set_of_le:=@List.take_set_of_le
theorem h8Y:type_of% @List.set_cons_succ:=@List.set_cons_succ
theorem h8Z:type_of% @Nat.beq_refl:=@Nat.beq_refl
theorem h9A:type_of% @Nat.mul_pos:=@Nat.mul_pos
theorem h9B:type_of% @Nat.pow_pos:=@Nat.pow_pos
theorem h9C:type_of% @Int.pow_pos:=@Int.pow_pos
theorem i1V:type_of% @List.pairwise_iff_getElem:=@List.pairwise_iff_getElem
theorem i1W:type_of% @List.any_eq_true:=@List.any_eq_true
theorem i1X:type_of% @Option.isNone_iff_eq_none:=@Option.isNone_iff_eq_none
theorem i1Y:type_of% @List.dropLast_concat_getLast:=@List.dropLast_concat_getLast
theorem i1Z:type_of% @List.mem_of_find?_eq_some:=@List.mem_of_find?_eq_some
theorem i2A:type_of% @List.length_eq_zero_iff:=@List.length_eq_zero_iff
theorem i3I:type_of% @List.map_map:=@List.map_map
end Go
section
namespace Go.Pv
inductive IV where
 |bool (b:Bool)
 |int (k:IntKind) (n:Int)
 |str (s:List UInt8)
 |nilptr
 |ptr (id off:Nat)
 |vref (cs:List IV) (off:Nat)
 |nilslice
 |hslice (id off len sz:Nat)
 |vslice (id:Option Nat) (e len sz:Nat) (cs:List IV)
 |nilmap
 |map (id:Nat)
 |func (fn:Fn) (first captured:List IV)
 |nilfunc
 |iface (t:TypeId) (v:IV)
 |nilIface
 |agg (cs:List IV)
 |tuple (vs:List IV)
 deriving Inhabited
inductive TV where
 |v (x:IV)
 |l (s off:Nat)
 |u
 deriving Inhabited
inductive PT(α:Type) where
 |nil
 |node (l:PT α) (v:Option α) (r:PT α)
 deriving Inhabited
namespace PT
variable {α:Type}
def get:PT α->Nat->Option α
 |nil,_=>none
 |node l v r,k=>if k=0 then v else if k%2=1 then l.get ((k-1)/2)else r.get ((k-2)/2)
def left:PT α->PT α
 |nil=>nil
 |node l _ _=>l
def right:PT α->PT α
 |nil=>nil
 |node _ _ r=>r
def val:PT α->Option α
 |nil=>none
 |node _ v _=>v
def a6P:Nat->PT α->Nat->Option α->PT α
 |0,t,_,_=>t
 |n+1,t,k,x=>
  if k=0 then node t.left x t.right
  else if k%2=1 then node (a6P n t.left ((k-1)/2) x) t.val t.right
  else node t.left t.val (a6P n t.right ((k-2)/2) x)
def set(t:PT α)(k:Nat)(x:Option α):PT α:=a6P (k+1) t k x
def filt(f:α->Bool):PT α->PT α
 |nil=>nil
 |node l v r=>node (l.filt f) (match v with|some x=>if f x then some x else none|none=>none) (r.filt f)
end PT
inductive IObj where
 |cells (cs:List IV)
 |tip (n:Nat)
 |map (es:List (IV×IV))
 |dead
 |free
 deriving Inhabited
structure Heap where
 o:PT IObj
 next:Nat
 deriving Inhabited
def Heap.get(h:Heap)(id:Nat):IObj:=(h.o.get id).getD .dead
def Heap.set(h:Heap)(id:Nat)(x:IObj):Heap:= {h with o:=h.o.set id (some x) }
def Heap.push(h:Heap)(x:IObj):Heap:= {o:=h.o.set h.next (some x),next:=h.next+1 }
def Heap.empty:Heap:=⟨.nil,0⟩
def Heap.reserve(h:Heap):Nat->Heap
 |0=>h
 |k+1=>(h.reserve k).push .free
structure Fr where
 tm:PT TV
 lv:PT (List IV)
 deriving Inhabited
structure Env where
 P:Program
 G:Nat->Option (List IV)
 A:FuncId->Nat->Nat
 bx:FuncId->Nat->Nat
 fz:FuncId->Bool
 nf:FuncId->Bool
 iso:FuncId->Bool
 ld:FuncId->Nat->Bool:=fun _ _=>false
 ln:FuncId->Nat->Nat:=fun _ _=>0
 an:FuncId->Nat->List Nat:=fun _ _=>[]
 od:FuncId->Nat->List Nat:=fun _ _=>[]
 nr:FuncId->Bool:=fun _=>false
 fm:FuncId->Nat->Bool:=fun _ _=>false
def isCell:IV->Bool
 | .agg _=>false
 | .tuple _=>false
 |_=>true
def pP:IV->Bool
 | .tuple _=>false
 |_=>true
def a9Y:Value->Option IV
 | .bool b=>some (.bool b)
 | .int k n=>some (.int k n)
 | .string s=>some (.str s.data.toList)
 | .pointer none=>some .nilptr
 | .slice none 0 0=>some .nilslice
 | .map none=>some .nilmap
 | .nilFunc=>some .nilfunc
 | .nilIface=>some .nilIface
 |_=>none
def rD:List Value->Option (List IV)
 | []=>some []
 |v::r=>match a9Y v,rD r with
  |some x,some xs=>some (x::xs)
  |_,_=>none
def ofValue:Value->Option IV
 | .agg cs=>(rD cs.toList).map .agg
 |v=>a9Y v
def cellsOf:IV->List IV
 | .agg cs=>cs
 |v=>[v]
section
variable (P:Program)
def gB(t:TypeId):Option Nat:=(P.info? t).map (·.size)
def iH(t:TypeId):Option Nat:=(P.info? t).map (·.bytes)
def cV(t:TypeId):Option IV:=((P.info? t).bind (·.zero)).bind ofValue
def a2A:TypeDesc->Bool
 | .struct _=>true
 | .array _ _=>true
 |_=>false
def gA(t:TypeId):Option (Bool×Nat):=
 match P.underlying t,P.info? t with
 |some d,some i=>some (a2A d,i.size)
 |_,_=>none
def fA(t:TypeId)(cs:List IV)(g:Nat):Option IV:=
 match gA P t with
 |some (true,n)=>if g+n<=cs.length then some (.agg ((cs.drop g).take n))else none
 |some (false,_)=>cs[g]?
 |none=>none
def a7H(t:TypeId)(cs:List IV)(g:Nat)(v:IV):Option (List IV):=
 let c:=cellsOf v
 if pP v then
  match gB P t with
  |some n=>if c.length=n/\g+n<=cs.length then some (cs.take g++c++cs.drop (g+n))else none
  |none=>none
 else none
def a1S(t:TypeId)(f:Nat):Option (TypeId×Nat):=
 match P.underlying t with
 |some (.struct fs)=>(fs[f]?).map fun x=>(x.type,x.offset)
 |_=>none
end
inductive CK where
 |int (k:IntKind)
 |bool
 |str
 |slc (sz:Nat)
 |any
def a9Z(P:Program)(t:TypeId):CK:=match P.underlying t with
 |some (.int k)=> .int k
 |some .bool=> .bool
 |some .string=> .str
 |some (.slice e)=>match gB P e with
  |some sz=> .slc sz
  |none=> .any
 |_=> .any
def rep{α:Type} :Nat->List α->List α
 |0,_=>[]
 |n+1,l=>l++rep n l
def uC(P:Program):Nat->TypeId->List CK
 |0,_=>[]
 |n+1,t=>match P.underlying t with
  |some (.struct fs)=>fs.toList.flatMap fun x=>uC P n x.type
  |some (.array m e)=>rep m (uC P n e)
  |_=>[a9Z P t]
def a2B:CK->IV->IV
 | .slc sz,.nilslice=> .vslice none 0 0 sz []
 | .slc _,.vslice _ _ len z cs=> .vslice none 0 len z cs
 |_,v=>v
def nY:List CK->List IV->List IV
 |ck::r,v::vs=>a2B ck v::nY r vs
 |_,vs=>vs
def nZ(P:Program)(t:TypeId)(v:IV):IV:=match v with
 | .agg cs=> .agg (nY (uC P 8 t) cs)
 |v=>a2B (a9Z P t) v
def hY(P:Program):List TypeId->List IV->List IV
 |t::ts,v::vs=>nZ P t v::hY P ts vs
 |_,vs=>vs
mutual
def bL:IV->Bool
 | .ptr _ _=>false
 | .hslice _ _ _ _=>false
 | .map _=>false
 | .vslice none _ _ _ cs=>aN cs
 | .vslice (some _) _ _ _ _=>false
 | .func _ xs ys=>aN xs&&aN ys
 | .iface _ v=>bL v
 | .agg cs=>aN cs
 | .tuple cs=>aN cs
 | .vref cs _=>aN cs
 |_=>true
def aN:List IV->Bool
 | []=>true
 |v::r=>bL v&&aN r
end
def spl(cells:List IV)(g:Nat)(c:List IV):List IV:=cells.take g++c++cells.drop (g+c.length)
def nJ(g:Nat->Option (Nat×Nat))(cells:List IV):List (Nat×IV)->Option (List IV)
 | []=>some cells
 | (i,v)::r=>
  match g i with
  |none=>none
  |some (off,n)=>if(cellsOf v).length=n/\off+n<=cells.length/\pP v=true then nJ g (spl cells off (cellsOf v)) r else none
def a1T(P:Program)(g:Array Field)(i:Nat):Option (Nat×Nat):=(g[i]?).map fun x=>(x.offset,P.cellsOf x.type)
def fF(n:Nat)(z:List IV):List IV:=
 match n with
 |0=>[]
 |n+1=>z++fF n z
def dH(k:IntKind)(a b:Int):Int:=k.wrap (BitVec.ofInt k.bits a&&&BitVec.ofInt k.bits b).toNat
def g0D(k:IntKind)(a b:Int):Int:=k.wrap (BitVec.ofInt k.bits a|||BitVec.ofInt k.bits b).toNat
def a7I(k:IntKind)(a b:Int):Int:=k.wrap (BitVec.ofInt k.bits a^^^BitVec.ofInt k.bits b).toNat
def d2X(k:IntKind)(a b:Int):Int:=k.wrap (BitVec.ofInt k.bits a&&& ~~~ BitVec.ofInt k.bits b).toNat
def rE(op:BinOp)(k:IntKind)(a b:Int):Option IV:=
 match op with
 | .add=>some (.int k (k.wrap (a+b)))
 | .sub=>some (.int k (k.wrap (a-b)))
 | .mul=>some (.int k (k.wrap (a*b)))
 | .quo=>if b=0 then none else some (.int k (k.wrap (a.tdiv b)))
 | .rem=>if b=0 then none else some (.int k (a.tmod b))
 | .and=>some (.int k (dH k a b))
 | .or=>some (.int k (g0D k a b))
 | .xor=>some (.int k (a7I k a b))
 | .andNot=>some (.int k (d2X k a b))
 | .eql=>some (.bool (a==b))
 | .neq=>some (.bool (a !=b))
 | .lss=>some (.bool (a<b))
 | .leq=>some (.bool (a<=b))
 | .gtr=>some (.bool (a>b))
 | .geq=>some (.bool (a>=b))
 |_=>none
def oJ(op:BinOp)(k:IntKind)(a b:Int):Option IV:=
 if b<0 then none
 else match op with
  | .shl=>some (.int k (k.wrap (a*2^ (min b.toNat k.bits))))
  | .shr=>some (.int k (a.fdiv (2^ (min b.toNat k.bits))))
  |_=>none
def a2C(op:BinOp)(x y:List UInt8):Option IV:=
 match op with
 | .add=>if((x.length+y.length:Nat):Int)>9223372036854775807 then none else some (.str (x++y))
 | .eql=>some (.bool (x==y))
 | .neq=>some (.bool (!(x==y)))
 | .lss=>some (.bool (Op.bytesLess x y))
 | .leq=>some (.bool (Op.bytesLess x y||x==y))
 | .gtr=>some (.bool (!(Op.bytesLess x y||x==y)))
 | .geq=>some (.bool (!Op.bytesLess x y))
 |_=>none
def dO:TypeDesc->IV->IV->Option Bool
 | .bool,.bool a,.bool b=>some (a==b)
 | .int _,.int k a,.int k' b=>if k=k' then some (a==b)else none
 | .string,.str a,.str b=>some (a==b)
 |_,_,_=>none
section
variable (P:Program)
def mI:List Field->List IV->List IV->Option Bool
 | [],_,_=>some true
 |f::fs,xs,ys=>
  if f.name == "_" then none else
  match P.underlying f.type,xs[f.offset]?,ys[f.offset]? with
  |some d,some x,some y=>match dO d x y with
   |some true=>mI fs xs ys
   |some false=>some false
   |none=>none
  |_,_,_=>none
def c9N(c:Bool)(t:TypeId)(x y:IV):Option Bool:=
 match P.underlying t with
 |some (.struct fs)=>
  match x,y with
  | .agg xs,.agg ys=>if P.stoodInHeld t||P.eqGuardType P.depth t then none else mI P fs.toList xs ys
  |_,_=>none
 |some (.pointer _)=>
  match x,y with
  | .nilptr,.nilptr=>some true
  | .nilptr,.ptr _ _| .nilptr,.vref _ _| .ptr _ _,.nilptr| .vref _ _,.nilptr=>some false
  |_,_=>none
 |some (.interface _)=>
  match x,y with
  | .nilIface,.nilIface=>if c then some true else none
  | .nilIface,.iface _ _| .iface _ _,.nilIface=>some false
  |_,_=>none
 |some (.slice _)=>
  match x,y with
  | .nilslice,.nilslice=>some true
  | .nilslice,.hslice .. | .hslice ..,.nilslice=>some false
  | .nilslice,.vslice id e len _ _=>if id.isSome|| (e==1)||decide (0<len)then some false else none
  | .vslice id e len _ _,.nilslice=>if id.isSome|| (e==1)||decide (0<len)then some false else none
  |_,_=>none
 |some (.map _ _)=>
  match x,y with
  | .nilmap,.nilmap=>some true
  | .nilmap,.map _| .map _,.nilmap=>some false
  |_,_=>none
 |some (.func _ _ _)=>
  match x,y with
  | .nilfunc,.nilfunc=>some true
  | .nilfunc,.func .. | .func ..,.nilfunc=>some false
  |_,_=>none
 |some d=>dO d x y
 |none=>none
def nL(op:BinOp)(c:Bool)(t:TypeId)(x y:IV):Option IV:=
 match x,y with
 | .int k a,.int k' b=>
  match op with
  | .shl=>oJ .shl k a b
  | .shr=>oJ .shr k a b
  |op=>if k=k' then rE op k a b else none
 | .str a,.str b=>a2C op a b
 |x,y=>
  match op with
  | .eql=>(c9N P c t x y).map .bool
  | .neq=>(c9N P c t x y).map fun b=> .bool (!b)
  |_=>none
def f1M(op:UnOp)(x:IV):Option IV:=
 match op,x with
 | .neg,.int k n=>some (.int k (k.wrap (0-n)))
 | .xor,.int k n=>rE .xor k (if k.signed then-1 else k.max) n
 | .not,.bool b=>some (.bool (!b))
 |_,_=>none
def lW:List IV->Option (List UInt8)
 | []=>some []
 | .int .u8 n::r=>(lW r).map (UInt8.ofNat n.toNat:: ·)
 |_=>none
def b0A(s d:TypeId)(x:IV):Option IV:=
 match P.underlying s,P.underlying d with
 |some ds,some dd=>
  match dd,x with
  | .int k,.int _ n=>some (.int k (k.wrap n))
  | .string,.str b=>some (.str b)
  | .string,x=>
   match ds with
   | .slice e=>match P.underlying e with
    |some (.int .u8)=>match x with
     | .nilslice=>some (.str [])
     | .vslice _ _ _ 1 cs=>(lW cs).map .str
     |_=>none
    |_=>none
   |_=>none
  |_,_=>none
 |_,_=>none
def asI:Option TV->Option Int
 |some (.v (.int _ n))=>some n
 |_=>none
def gT(len:Nat)(i g:Option (Option TV)):Option (Nat×Nat):=
 let h:=match g with
  |none=>some (len:Int)
  |some x=>asI x
 let l:=match i with
  |none=>some (0:Int)
  |some x=>asI x
 match l,h with
 |some l,some h=>if 0<=l/\l<=h/\h<=len then some (l.toNat,h.toNat)else none
 |_,_=>none
def pQ(t:TypeId)(x:IV)(i g:Option (Option TV)):Option IV:=
 match P.underlying t with
 |some .string=>match x with
  | .str s=>(gT s.length i g).map fun(l,h)=> .str ((s.drop l).take (h-l))
  |_=>none
 |some (.slice e)=>match gB P e with
  |some sz=>match x with
   | .nilslice=>(gT 0 i g).map fun _=> .nilslice
   | .hslice id off len z=>if z=sz then(gT len i g).map fun(l,h)=> .hslice id (off+l*sz) (h-l) sz else none
   | .vslice id e len z cs=>if z=sz then(gT len i g).map fun(l,h)=> .vslice id (e- (len-h)*sz) (h-l) sz ((cs.drop (l*sz)).take ((h-l)*sz))else none
   |_=>none
  |none=>none
 |_=>none
end
section
variable (E:Env)
def bC(i:Nat->Option TV):Operand->Option TV
 | .tmp t=>i t
 | .const v=>(ofValue v).map .v
 | .global g=>(E.G g).map fun cs=> .v (.vref cs 0)
 | .func f=>some (.v (.func (.func f) [] []))
end
def bM:Option TV->Option IV
 |some (.v x)=>some x
 |_=>none
def oA:List (Option TV)->Option (List IV)
 | []=>some []
 |x::r=>match bM x,oA r with
  |some v,some vs=>some (v::vs)
  |_,_=>none
def iO:List (Nat×Option TV)->Option (List (Nat×IV))
 | []=>some []
 | (i,x)::r=>match bM x,iO r with
  |some v,some vs=>some ((i,v)::vs)
  |_,_=>none
def kL:Operand->Bool
 | .const _=>true
 |_=>false
def min2:IV->IV->Option IV
 | .int k x,.int _ y=>some (.int k (if y<x then y else x))
 |_,_=>none
def max2:IV->IV->Option IV
 | .int k x,.int _ y=>some (.int k (if y>x then y else x))
 |_,_=>none
def vZ(f:IV->IV->Option IV):IV->List IV->Option IV
 |x,[]=>some x
 |x,y::r=>match f x y with
  |some z=>vZ f z r
  |none=>none
def mJ(n:Nat):TV->Option TV
 | .l s off=>some (.l s (off+n))
 | .v (.ptr id off)=>some (.v (.ptr id (off+n)))
 | .v (.vref cs off)=>some (.v (.vref cs (off+n)))
 |_=>none
def wA(P:Program)(t:TypeId):Option Bool:=
 match P.underlying t with
 |some (.interface _)=>some true
 |some _=>some false
 |none=>none
section
variable (E:Env) (f:FuncId) (o:Oper) (ev:Operand->Option TV) (lv:Nat->Option (List IV)) (h:Heap)
def i0O:Bool:=match o.dst with
 |some d=>E.fm f d
 |none=>false
def eN:Option (TV×Option (List IV)):=
 match o.op with
 | .move x=>if i0O E f o=true then none else(ev x).map (·,none)
 | .assign x=>(ev x).map (·,none)
 | .pick c a b=>match ev c with
  |some (.v (.bool true))=>(ev a).map (·,none)
  |some (.v (.bool false))=>(ev b).map (·,none)
  |_=>none
 | .alloc t=>match o.dst with
  |some d=>if E.bx f d=0 then(cV E.P t).map fun z=>(.l d 0,some (cellsOf z))else none
  |none=>none
 | .box _ x=>match o.dst,bM (ev x)with
  |some d,some v=>if E.bx f d=0/\pP v=true then some (.l d 0,some (cellsOf v))else none
  |_,_=>none
 | .build t parts=>
  match cV E.P t,iO (parts.toList.map fun(i,x)=>(i,ev x))with
  |some z,some ps=>
   match E.P.underlying t with
   |some (.struct fs)=>if fs.toList.all (fun x=>(E.P.info? x.type).isSome)then(nJ (a1T E.P fs) (cellsOf z) ps).map fun cs=>(.v (.agg cs),none)else none
   |some (.array _ e)=>match gB E.P e with
    |some n=>(nJ (fun i=>some (i*n,n)) (cellsOf z) ps).map fun cs=>(.v (.agg cs),none)
    |none=>none
   |_=>none
  |_,_=>none
 | .buildSlice t n parts=>match E.P.underlying t,o.dst with
  |some (.slice e),some d=>if E.A f d=0 then match gB E.P e,cV E.P e,iO (parts.toList.map fun(i,x)=>(i,ev x))with
   |some (sz+1),some z,some ps=>if n*(sz+1)<=16777216/\(cellsOf z).length=sz+1 then
    (nJ (fun i=>some (i*(sz+1),sz+1)) (fF n (cellsOf z)) ps).map fun cs=>(.v (.vslice none 1 n (sz+1) (match E.nf f with|true=>nY (rep n (uC E.P 8 e)) cs|false=>cs)),none)
    else none
   |_,_,_=>none
   else none
  |_,_=>none
 | .load t a=>match ev a with
  |some (.v (.vref cs off))=>(fA E.P t cs off).map fun v=>(.v v,none)
  |_=>none
 | .nilCheck x=>match ev x with
  |some (.l s off)=>some (.l s off,none)
  |some (.v (.ptr id off))=>some (.v (.ptr id off),none)
  |some (.v (.vref cs off))=>some (.v (.vref cs off),none)
  |some (.v (.func (.func g) a b))=>some (.v (.func (.func g) a b),none)
  |some (.v (.iface t v))=>some (.v (.iface t v),none)
  |_=>none
 | .binOp op t x y _=>match bM (ev x),bM (ev y)with
  |some a,some b=>(nL E.P op (kL x||kL y) t a b).map fun v=>(.v v,none)
  |_,_=>none
 | .unOp op _ x=>match bM (ev x)with
  |some a=>(f1M op a).map fun v=>(.v v,none)
  |none=>none
 | .convert s d x=>match bM (ev x)with
  |some a=>(b0A E.P s d a).map fun v=>(.v v,none)
  |none=>none
 | .makeInterface t x=>match wA E.P t,bM (ev x)with
  |some false,some a=>some (.v (.iface t a),none)
  |_,_=>none
 | .makeFunc fn a b=>match oA (a.toList.map ev),oA (b.toList.map ev)with
  |some xs,some ys=>some (.v (.func fn xs ys),none)
  |_,_=>none
 | .slice t x lo hi mx=>match mx,bM (ev x)with
  |none,some a=>(pQ E.P t a (lo.map ev) (hi.map ev)).map fun v=>(.v v,none)
  |_,_=>none
 | .fieldAddr t x i=>match a1S E.P t i,ev x with
  |some (ft,off),some a=>match gB E.P ft with
   |some (_+1)=>(mJ off a).map (·,none)
   |_=>none
  |_,_=>none
 | .field t x i=>match a1S E.P t i,bM (ev x)with
  |some (ft,off),some (.agg cs)=>(fA E.P ft cs off).map fun v=>(.v v,none)
  |_,_=>none
 | .indexAddr t x ix=>match asI (ev ix),E.P.underlying t with
  |some i,some (.array n e)=>match gB E.P e,ev x with
   |some sz,some a=>if 0<=i/\i<n then(mJ (i.toNat*sz) a).map (·,none)else none
   |_,_=>none
  |some i,some (.slice e)=>match gB E.P e,bM (ev x)with
   |some sz,some (.vslice _ _ len z cs)=>if 0<=i/\i<len/\z=sz then some (.v (.vref cs (i.toNat*sz)),none)else none
   |some sz,some (.hslice id off len z)=>if 0<=i/\i<len/\z=sz then some (.v (.ptr id (off+i.toNat*sz)),none)else none
   |_,_=>none
  |_,_=>none
 | .index t x ix=>match asI (ev ix),E.P.underlying t,bM (ev x)with
  |some i,some (.array n e),some (.agg cs)=>match gB E.P e with
   |some sz=>if 0<=i/\i<n then(fA E.P e cs (i.toNat*sz)).map fun v=>(.v v,none)else none
   |none=>none
  |some i,some .string,some (.str s)=>if 0<=i then(s[i.toNat]?).map fun b=>(.v (.int .u8 b.toNat),none)else none
  |_,_,_=>none
 | .extract x i=>match bM (ev x)with
  |some (.tuple vs)=>(vs[i]?).map fun v=>(.v v,none)
  |_=>none
 | .typeAssert x _ t ok=>match wA E.P t,bM (ev x)with
  |some false,some (.iface u v)=>
   if u=t then(if ok then some (.v (.tuple [v,.bool true]),none)else some (.v v,none))
   else if ok then(cV E.P t).map fun z=>(.v (.tuple [z,.bool false]),none)else none
  |some false,some .nilIface=>if ok then(cV E.P t).map fun z=>(.v (.tuple [z,.bool false]),none)else none
  |_,_=>none
 | .call {callee:= .builtin .len,args,argTypes } =>
  match argTypes[0]?,(args[0]?).bind fun x=>bM (ev x)with
  |some t,some x=>
   match E.P.underlying t,x with
   |some .string,.str s=>some (.v (.int .i64 s.length),none)
   |some (.slice _),.nilslice=>some (.v (.int .i64 0),none)
   |some (.slice _),.hslice _ _ len _=>some (.v (.int .i64 len),none)
   |some (.slice _),.vslice _ _ len _ _=>some (.v (.int .i64 len),none)
   |some (.map _ _),.nilmap=>some (.v (.int .i64 0),none)
   |some (.array n _),_=>some (.v (.int .i64 n),none)
   |_,_=>none
  |_,_=>none
 | .call {callee:= .builtin .min,args,.. } =>match oA (args.toList.map ev)with
  |some (x::r)=>(vZ min2 x r).map fun v=>(.v v,none)
  |_=>none
 | .call {callee:= .builtin .max,args,.. } =>match oA (args.toList.map ev)with
  |some (x::r)=>(vZ max2 x r).map fun v=>(.v v,none)
  |_=>none
 |_=>none
def gD:Option TV:=
 match o.op with
 | .load t a=>match ev a with
  |some (.l s off)=>match lv s with
   |some cs=>(fA E.P t cs off).map .v
   |none=>none
  |_=>none
 |_=>none
def gZ:Option (Nat×List IV):=
 match o.op with
 | .store t a x=>match ev a,bM (ev x)with
  |some (.l s off),some v=>match lv s with
   |some cs=>(a7H E.P t cs off v).map (s,·)
   |none=>none
  |_,_=>none
 |_=>none
def nM:TypeDesc->IV->Bool
 | .bool,.bool _=>true
 | .int _,.int _ _=>true
 | .string,.str _=>true
 |_,_=>false
def fU(d:TypeDesc)(k:IV):List (IV×IV)->Option (Option IV)
 | []=>some none
 | (x,v)::r=>match dO d k x with
  |some true=>some (some v)
  |some false=>fU d k r
  |none=>none
def oK(d:TypeDesc)(k v:IV):List (IV×IV)->Option (List (IV×IV))
 | []=>some [(k,v)]
 | (x,u)::r=>match dO d k x with
  |some true=>some ((k,v)::r)
  |some false=>(oK d k v r).map ((x,u):: ·)
  |none=>none
def kO(d:TypeDesc)(k:IV):List (IV×IV)->Nat
 | []=>0
 | (x,_)::r=>match dO d k x with
  |some true=>0
  |_=>kO d k r+1
def nN(v:IV):Nat->List (IV×IV)->List (IV×IV)
 |_,[]=>[]
 |0,(k,_)::r=>(k,v)::r
 |n+1,e::r=>e::nN v n r
def a7J(d:TypeDesc)(k z:IV)(g:List (IV×IV)):Option (IV×Nat×List (IV×IV)):=match fU d k g with
 |some (some v)=>(oK d k v g).map fun es'=>(v,kO d k g,es')
 |some none=>some (z,g.length,g++ [(k,z)])
 |none=>none
def dP:Option TV:=
 match o.op with
 | .load t a=>match ev a with
  |some (.v (.ptr id off))=>match h.get id with
   | .cells cs=>(fA E.P t cs off).map .v
   |_=>none
  |_=>none
 | .convert s d x=>match E.P.underlying s,E.P.underlying d,bM (ev x)with
  |some (.slice e),some .string,some (.hslice id off len 1)=>match E.P.underlying e,h.get id with
   |some (.int .u8),.cells cs=>if off+len<=cs.length then(lW ((cs.drop off).take len)).map fun b=> .v (.str b)else none
   |_,_=>none
  |_,_,_=>none
 | .slice t x lo hi mx=>match mx,E.P.underlying t,ev x with
  |none,some (.array n e),some (.v (.ptr id off))=>match h.get id,gB E.P e with
   | .cells cs,some (sz+1)=>if off+n*(sz+1)<=cs.length then(gT n (lo.map ev) (hi.map ev)).map fun(l,k)=> .v (.hslice id (off+l*(sz+1)) (k-l) (sz+1))else none
   |_,_=>none
  |_,_,_=>none
 | .lookup t x k ok=>match E.P.underlying t,bM (ev x),bM (ev k)with
  |some (.map kt et),some m,some key=>
   match E.P.underlying kt,(match m with| .nilmap=>some []| .map id=>(match h.get id with| .map es=>some es|_=>none)|_=>none)with
   |some d,some es=>if nM d key then match fU d key es with
    |some (some v)=>some (.v (if ok then .tuple [v,.bool true]else v))
    |some none=>(cV E.P et).map fun z=> .v (if ok then .tuple [z,.bool false]else z)
    |none=>none
    else none
   |_,_=>none
  |_,_,_=>none
 | .call {callee:= .builtin .len,args,argTypes } =>
  match argTypes[0]?,(args[0]?).bind fun x=>bM (ev x)with
  |some t,some (.map id)=>match E.P.underlying t,h.get id with
   |some (.map _ _),.map es=>some (.v (.int .i64 es.length))
   |_,_=>none
  |_,_=>none
 |_=>none
def fO(sz:Nat)(x:IV):Option (Nat×List IV):=
 match x with
 | .nilslice=>some (0,[])
 | .vslice _ _ len z cs=>if z=sz then some (len,cs)else none
 | .hslice id off len z=>if z=sz then(match h.get id with
  | .cells cs=>if off+len*sz<=cs.length then some (len,(cs.drop off).take (len*sz))else none
  |_=>none)else none
 | .str s=>if sz=1 then some (s.length,s.map fun b=> .int .u8 b.toNat)else none
 |_=>none
def newRow(g len sz:Nat)(cs:List IV):IV×Heap:=
 if g=0 then(.vslice (some h.next) (len*sz) len sz cs,h.push (.tip (len*sz)))
 else(.hslice h.next 0 len sz,h.push (.cells cs))
def kP(i sz g:Nat)(s x:IV):Option (IV×Heap):=
 match fO h sz x with
 |some (n,xs)=>
  if n=0 then(match s with
   | .nilslice=>some (.nilslice,h)
   | .vslice id e len z cs=>if z=sz then some (.vslice id e len z cs,h)else none
   | .hslice id off len z=>if z=sz then some (.hslice id off len z,h)else none
   |_=>none)
  else match s with
   | .nilslice=>if n*g<=140737488355328 then some (newRow h i n sz xs)else none
   | .vslice none 1 len z cs=>if z=sz/\(len+n)*g<=140737488355328 then some (newRow h i (len+n) sz (cs++xs))else none
   | .vslice (some id) e len z cs=>
    match h.get id with
    | .tip m=>if m=e/\z=sz/\(len+n)*g<=140737488355328 then some (.vslice (some id) (e+n*sz) (len+n) sz (cs++xs),h.set id (.tip (e+n*sz)))else none
    |_=>none
   | .hslice id off len z=>
    match h.get id with
    | .cells cs=>if off=0/\z=sz/\len*sz<=cs.length/\(len+n)*g<=140737488355328 then some (.hslice h.next 0 (len+n) sz,(h.set id .dead).push (.cells (cs.take (len*sz)++xs)))else none
    |_=>none
   |_=>none
 |none=>none
def lX:TypeDesc->Bool
 | .slice _=>true
 | .string=>true
 |_=>false
def gV:Option (Option TV×Heap):=
 match o.op with
 | .move x=>if i0O E f o=true then match bM (ev x)with
   |some (.hslice id off len sz)=>match h.get id with
    | .cells cs=>if 0<sz/\off+len*sz<=cs.length then some (some (.v (.vslice none 0 len sz ((cs.drop off).take (len*sz)))),h.set id .dead)else none
    |_=>none
   |_=>none
  else none
 | .alloc t=>match o.dst with
  |some d=>if E.bx f d=0 then none else(cV E.P t).map fun z=>(some (.v (.ptr h.next 0)),h.push (.cells (cellsOf z)))
  |none=>none
 | .box _ x=>match o.dst,bM (ev x)with
  |some d,some v=>if E.bx f d=0 then none else if pP v then some (some (.v (.ptr h.next 0)),h.push (.cells (cellsOf v)))else none
  |_,_=>none
 | .buildSlice t n parts=>match E.P.underlying t,o.dst with
  |some (.slice e),some d=>if E.A f d=0 then none else match gB E.P e,cV E.P e,iO (parts.toList.map fun(i,x)=>(i,ev x))with
   |some (sz+1),some z,some ps=>if n*(sz+1)<=16777216/\(cellsOf z).length=sz+1 then
    (nJ (fun i=>some (i*(sz+1),sz+1)) (fF n (cellsOf z)) ps).map fun cs=>let r:=newRow h (E.A f d) n (sz+1) cs; (some (.v r.1),r.2)
    else none
   |_,_,_=>none
  |_,_=>none
 | .makeSlice t l c=>match E.P.underlying t,o.dst,asI (ev l),asI (ev c)with
  |some (.slice e),some d,some l,some c=>match gB E.P e,iH E.P e,cV E.P e with
   |some (sz+1),some bytes,some z=>
    if 0<=l/\l<=c/\c<=9223372036854775807/\bytes*c<=140737488355328/\(cellsOf z).length=sz+1 then
     let r:=newRow h (1-E.A f d) l.toNat (sz+1) (fF l.toNat (cellsOf z));some (some (.v r.1),r.2)
    else none
   |_,_,_=>none
  |_,_,_,_=>none
 | .makeMap _ r=>match r with
  |none=>some (some (.v (.map h.next)),h.push (.map []))
  |some _=>none
 | .convert s d x=>match E.P.underlying s,E.P.underlying d,o.dst,bM (ev x)with
  |some _,some (.slice e),some dst,some (.str b)=>match E.P.underlying e with
   |some (.int .u8)=>let r:=newRow h (E.A f dst) b.length 1 (b.map fun c=> .int .u8 c.toNat);some (some (.v r.1),r.2)
   |_=>none
  |_,_,_,_=>none
 | .store t a x=>match ev a,bM (ev x)with
  |some (.v (.ptr id off)),some v=>match h.get id with
   | .cells cs=>(a7H E.P t cs off v).map fun cs'=>(none,h.set id (.cells cs'))
   |_=>none
  |_,_=>none
 | .mapUpdate t m k x=>match E.P.underlying t,bM (ev m),bM (ev k),bM (ev x)with
  |some (.map kt _),some (.map id),some key,some v=>match E.P.underlying kt,h.get id with
   |some d,.map es=>if nM d key then(oK d key v es).map fun es'=>(none,h.set id (.map es'))else none
   |_,_=>none
  |_,_,_,_=>none
 | .mapEntry t m k=>match E.P.underlying t,bM (ev m),bM (ev k)with
  |some (.map kt et),some (.map id),some key=>match E.P.underlying kt,h.get id,cV E.P et with
   |some d,.map es,some z=>if nM d key then(a7J d key z es).map fun r=>(some (.v (.tuple [r.1,.int .i64 r.2.1])),h.set id (.map r.2.2))else none
   |_,_,_=>none
  |_,_,_=>none
 | .entryStore _ m s x=>match bM (ev m),bM (ev s),bM (ev x)with
  |some (.map id),some (.int _ n),some v=>match h.get id with
   | .map es=>if 0<=n/\n<es.length then some (none,h.set id (.map (nN v n.toNat es)))else none
   |_=>none
  |_,_,_=>none
 | .call {callee:= .builtin .append,args,argTypes } =>
  match argTypes.toList,args.toList with
  | [t,u],[sx,xx]=>match bM (ev sx),bM (ev xx),E.P.underlying t,E.P.underlying u,o.dst with
   |some s,some x,some (.slice e),some du,some d=>match gB E.P e,iH E.P e,cV E.P e with
    |some (sz+1),some (bytes+1),some z=>if(cellsOf z).length=sz+1/\lX du=true then(kP h (E.A f d) (sz+1) (bytes+1) s x).map fun r=>(some (.v r.1),r.2)else none
    |_,_,_=>none
   |_,_,_,_,_=>none
  |_,_=>none
 | .call {callee:= .builtin .copy,args,argTypes } =>
  match argTypes.toList,args.toList with
  |t::_,[sx,xx]=>match bM (ev sx),bM (ev xx),E.P.underlying t with
   |some (.hslice id off len z),some x,some (.slice e)=>match gB E.P e,h.get id with
    |some (sz+1),.cells cs=>match fO h (sz+1) x with
     |some (n,xs)=>if z=sz+1/\off+len*z<=cs.length then
       some (some (.v (.int .i64 ((min n len:Nat):Int))),h.set id (.cells (spl cs off (xs.take (min n len*(sz+1))))))
      else none
     |none=>none
    |_,_=>none
   |_,_,_=>none
  |_,_=>none
 |_=>none
def e4H(sz:Nat)(x:IV):Option (Nat×List IV):=
 match x with
 | .nilslice=>some (0,[])
 | .vslice _ _ len z cs=>if z=sz then some (len,cs)else none
 | .str s=>if sz=1 then some (s.length,s.map fun b=> .int .u8 b.toNat)else none
 |_=>none
def uM(n g len sz:Nat)(cs:List IV):IV:=if g=0 then .vslice (some n) (len*sz) len sz cs else .hslice n 0 len sz
def pR(g len sz:Nat)(cs:List IV):IObj:=if g=0 then .tip (len*sz)else .cells cs
def aSh(n:Nat):Option (Option TV×Option IObj):=
 match o.op with
 | .alloc t=>match o.dst with
  |some d=>if E.bx f d=0 then none else(cV E.P t).map fun z=>(some (.v (.ptr n 0)),some (.cells (cellsOf z)))
  |none=>none
 | .makeSlice t l c=>match E.P.underlying t,o.dst,asI (ev l),asI (ev c)with
  |some (.slice e),some d,some l,some c=>match gB E.P e,iH E.P e,cV E.P e with
   |some (sz+1),some bytes,some z=>
    if 0<=l/\l<=c/\c<=9223372036854775807/\bytes*c<=140737488355328/\(cellsOf z).length=sz+1/\(1-E.A f d=0->0<l.toNat)then
     some (some (.v (uM n (1-E.A f d) l.toNat (sz+1) (fF l.toNat (cellsOf z)))),some (pR (1-E.A f d) l.toNat (sz+1) (fF l.toNat (cellsOf z))))
    else none
   |_,_,_=>none
  |_,_,_,_=>none
 | .makeMap _ r=>match r with
  |none=>some (some (.v (.map n)),some (.map []))
  |some _=>none
 | .call {callee:= .builtin .append,args,argTypes } =>
  match argTypes.toList,args.toList with
  | [t,u],[sx,xx]=>match bM (ev sx),bM (ev xx),E.P.underlying t,E.P.underlying u,o.dst with
   |some .nilslice,some x,some (.slice e),some du,some d=>match gB E.P e,iH E.P e,cV E.P e with
    |some (sz+1),some (bytes+1),some z=>if(cellsOf z).length=sz+1/\lX du=true then match e4H (sz+1) x with
      |some (k,xs)=>if k=0 then some (some (.v .nilslice),none)
       else if k*(bytes+1)<=140737488355328 then some (some (.v (uM n (E.A f d) k (sz+1) xs)),some (pR (E.A f d) k (sz+1) xs))else none
      |none=>none
     else none
    |_,_,_=>none
   |_,_,_,_,_=>none
  |_,_=>none
 |_=>none
def jO:Option Nat:=match o.op with
 | .load _ a=>match ev a with
  |some (.v (.ptr id _))=>some id
  |_=>none
 | .convert _ _ x=>match bM (ev x)with
  |some (.hslice id _ _ _)=>some id
  |_=>none
 | .slice _ x _ _ _=>match ev x with
  |some (.v (.ptr id _))=>some id
  |_=>none
 | .lookup _ x _ _=>match bM (ev x)with
  |some (.map id)=>some id
  |_=>none
 | .call {callee:= .builtin .len,args,.. } =>match(args[0]?).bind fun x=>bM (ev x)with
  |some (.map id)=>some id
  |_=>none
 |_=>none
def dJ:Option (FuncId×List IV):=
 match o.op with
 | .call {callee:= .value x,args,.. } =>match ev x,oA (args.toList.map ev)with
  |some (.v (.func (.func g) a b)),some xs=>some (g,a++xs++b)
  |_,_=>none
 |_=>none
end
def Fr.put(g:Fr)(d:Option Tmp)(v:Option TV):Fr:=
 match d with
 |some t=> {g with tm:=g.tm.set t v }
 |none=>g
def rF(s:Nat):TV->Bool
 | .l s' _=>s' !=s
 |_=>true
def Fr.box(g:Fr)(s:Nat)(cs:List IV):Fr:= {tm:=g.tm.filt (rF s),lv:=g.lv.set s (some cs) }
def b9O(E:Env)(f:FuncId)(o:Oper):Option Nat:=
 match o.op with
 | .alloc _=>match o.dst with
  |some d=>if E.bx f d=0 then some d else none
  |none=>none
 | .box _ _=>match o.dst with
  |some d=>if E.bx f d=0 then some d else none
  |none=>none
 |_=>none
def Fr.forget(g:Fr):List Nat->Fr
 | []=>g
 |s::r=>Fr.forget {tm:=g.tm.filt (rF s),lv:=g.lv.set s none } r
def Fr.start(E:Env)(f:FuncId)(ops:List Oper)(draw:Bool)(g:Fr):Fr:=if draw then g.forget (ops.filterMap (b9O E f))else g
structure Met where
 e:Nat:=0
 r:Nat:=0
 s:Nat:=0
 l:Nat:=0
 a:Nat:=0
 deriving Inhabited
inductive Cls where
 |p|l|s|r|e|b|a
 deriving DecidableEq,Inhabited
def pS(b:Bool):Cls:=match b with
 |true=> .p
 |false=> .e
def bit(i:Nat):Nat:=2^i
def Met.chk(m:Met):Cls->Nat
 | .p=>0
 | .b=>0
 | .l=>m.s
 | .s=>m.s|||m.l
 | .r=>m.e
 | .e=>m.e|||m.r|||m.a
 | .a=>m.e
def Met.add(m:Met)(c:Cls)(i:Nat):Met:=
 match c with
 | .p=>m
 | .b=>m
 | .l=> {m with l:=m.l|||bit i }
 | .s=> {m with s:=m.s|||bit i }
 | .r=> {m with r:=m.r|||bit i }
 | .e=> {m with e:=m.e|||bit i }
 | .a=> {m with a:=m.a|||bit i }
def dD(ops:List Oper)(g:Nat->Option TV)(o:Oper):Option Bool:=
 match o.guard with
 |none=>some true
 |some (j,b)=>match(ops[j]?).bind (·.dst)with
  |some d=>match g d with
   |some (.v (.bool x))=>some (x==b)
   |some .u=>some false
   |_=>none
  |none=>none
def jE(m b:Nat):Bool:=(m&&&b)==m
structure Ef where
 c:Cls
 v:Option TV
 loc:Option (Nat×List IV)
 box:Bool
 h:Heap
mutual
def b9P:IV->IV->Bool
 | .bool a,.bool b=>a==b
 | .int k n,.int k' n'=>decide (k=k') &&n==n'
 | .str a,.str b=>a==b
 | .nilptr,.nilptr=>true
 | .ptr a b,.ptr c d=>Nat.beq a c&&Nat.beq b d
 | .nilslice,.nilslice=>true
 | .hslice a b c d,.hslice a' b' c' d'=>Nat.beq a a'&& (Nat.beq b b'&& (Nat.beq c c'&&Nat.beq d d'))
 | .vslice i e n z cs,.vslice i' e' n' z' cs'=>decide (i=i') && (Nat.beq e e'&& (Nat.beq n n'&& (Nat.beq z z'&&oL cs cs')))
 | .nilmap,.nilmap=>true
 | .map a,.map b=>Nat.beq a b
 | .nilfunc,.nilfunc=>true
 | .nilIface,.nilIface=>true
 | .agg a,.agg b=>oL a b
 | .tuple a,.tuple b=>oL a b
 | .vref a o,.vref b o'=>Nat.beq o o'&&oL a b
 | .func f a c,.func g b d=>decide (f=g) && (oL a b&&oL c d)
 | .iface t a,.iface u b=>decide (t=u) &&b9P a b
 |_,_=>false
def oL:List IV->List IV->Bool
 | [],[]=>true
 |a::r,b::q=>b9P a b&&oL r q
 |_,_=>false
end
def e4I:TV->TV->Bool
 | .v a,.v b=>b9P a b
 |_,_=>false
abbrev Pd:=List (Nat×(Heap->Bool))
def b9Q(m:Met)(g:Pd)(b:Nat)(e:Ef):Bool:=match e.c with
 | .e=>jE (m.e|||m.a) b&&g.all (fun p=>b.testBit p.1||p.2 e.h)
 |_=>false
section
variable (E:Env) (f:FuncId) (cf:FuncId->List IV->Heap->Option (IV×Heap)) (ops:List Oper) (draw:Bool) (bef:Nat->Nat)
def dX(o:Oper)(ev:Operand->Option TV)(lv:Nat->Option (List IV))(h:Heap):Option Ef:=
 match eN E f o ev with
 |some (v,bx)=>match bx,o.dst with
  |some cs,some d=>if draw then(match lv d with
   |none=>some ⟨.b,some v,some (d,cs),false,h⟩
   |some _=>none)else some ⟨.p,some v,some (d,cs),true,h⟩
  |none,_=>some ⟨.p,some v,none,false,h⟩
  |_,_=>none
 |none=>
 match gD E o ev lv with
 |some v=>some ⟨.l,some v,none,false,h⟩
 |none=>
 match gZ E o ev lv with
 |some (s,cs)=>some ⟨.s,none,some (s,cs),false,h⟩
 |none=>
 match dP E o ev h with
 |some v=>some ⟨.r,some v,none,false,h⟩
 |none=>
 match gV E f o ev h with
 |some (v,h')=>some ⟨.e,v,none,false,h'⟩
 |none=>
 match dJ o ev with
 |some (g,xs)=>match cf g xs h with
  |some (v,h')=>some ⟨pS (E.iso g),some (.v v),none,false,h'⟩
  |none=>none
 |none=>none
def uN(o:Oper)(g:Nat->Option TV)(lv:Nat->Option (List IV))(h:Heap):Option Ef:=
 match dD ops g o with
 |none=>none
 |some false=>some ⟨.p,some .u,none,false,h⟩
 |some true=>dX E f cf draw o (bC E g) lv h
def dE(rs:Option Nat)(o:Oper)(g:Nat->Option TV)(lv:Nat->Option (List IV))(h:Heap):Option Ef:=
 match rs with
 |none=>uN E f cf ops draw o g lv h
 |some n=>match dD ops g o with
  |none=>none
  |some false=>some ⟨.p,some .u,none,false,h⟩
  |some true=>match aSh E f o (bC E g) n with
   |some (v,none)=>some ⟨.p,v,none,false,h⟩
   |some (v,some x)=>match h.get n with
    | .free=>some ⟨.a,v,none,false,h.set n x⟩
    |_=>none
   |none=>none
def b9R:Nat->List Nat->Nat->Option Nat
 |_,[],_=>none
 |k,j::r,i=>match Nat.beq i j with
  |true=>some k
  |false=>b9R (k+1) r i
def b0B(g:List Nat)(rs:Nat->Option Nat)(m:Met)(b:Nat)(id:Option Nat)(c:Cls):Bool:=match c with
 | .r=>g.all fun j=>b.testBit j|| (!(m.a.testBit j)|| (match rs j,id with
  |some n,some k=>!(Nat.beq n k)
  |_,_=>true))
 |_=>true
def okB(g:List Nat)(rs:Nat->Option Nat)(m:Met)(i:Pd)(b:Nat)(id:Option Nat)(e:Ef):Bool:=(jE (m.chk e.c) b||b9Q m i b e) &&b0B g rs m b id e.c
def Fr.app(g:Fr)(d:Option Tmp)(e:Ef):Fr:=
 match e.loc with
 |some (s,cs)=>if e.box then(g.box s cs).put d e.v else {g.put d e.v with lv:=g.lv.set s (some cs) }
 |none=>g.put d e.v
def mK(o:Oper)(ev:Operand->Option TV)(e:Ef)(i:Nat)(g:Pd):Pd:=match e.c with
 | .r=>(i,fun h2=>match dP E o ev h2,e.v with
  |some v2,some v=>e4I v2 v
  |_,_=>false)::g
 |_=>g
def mL(g:List Nat)(rs:Nat->Option Nat):List (Oper×Nat)->Met->Pd->Fr->Heap->Option (Fr×Heap)
 | [],_,_,fr,h=>some (fr,h)
 | (o,i)::r,m,pd,fr,h=>match dE E f cf ops draw (rs i) o fr.tm.get fr.lv.get h with
  |some e=>if !draw||okB g rs m pd (bef i) (jO o (bC E fr.tm.get)) e then mL g rs r (m.add e.c i) (mK E o (bC E fr.tm.get) e i pd) (fr.app o.dst e) e.h else none
  |none=>none
end
inductive Ex where
 |normal
 |exit (id:Nat)
 |ret
 deriving DecidableEq,Inhabited
def jF(g:Fr->Heap->Option (Ex×Fr×Heap)):Nat->Fr->Heap->Option (Ex×Fr×Heap)
 |0,_,_=>none
 |n+1,fr,h=>match g fr h with
  |some (.normal,fr',h')=>jF g n fr' h'
  |r=>r
def a2D(ops:Array Oper):Nat->Nat:=fun i=>(Region.before ops).getD i 0
def qR(ops:List Oper)(p q:Oper×Nat):Bool:=Nat.blt p.2 q.2|| (!Nat.beq p.2 q.2&& (p.1.after.toList.all fun e=>!Nat.beq e.on q.2) &&Oper.apart ops.toArray p.1 q.1)
def a2E(ops:List Oper):List (Oper×Nat)->Bool
 | []=>true
 |p::r=>r.all (qR ops p) &&a2E ops r
def a0G(ops:List Oper)(l:List Nat):List (Oper×Nat):=l.filterMap fun i=>ops[i]?.map fun o=>(o,i)
def yM(l:List Nat)(draw:Bool)(ops:List Oper):List (Oper×Nat):=match draw,l with
 |true,i::r=>match Nat.ble (i::r).length ops.length&& (List.range ops.length).all (fun j=>(i::r).contains j) &&a2E ops (a0G ops (i::r))with
  |true=>a0G ops (i::r)
  |false=>ops.zipIdx
 |_,_=>ops.zipIdx
section
variable (E:Env) (f:FuncId) (cf:FuncId->List IV->Heap->Option (IV×Heap)) (n:Nat)
def dM:Code->Fr->Heap->Option (Ex×Fr×Heap)
 | .skip,fr,h=>some (.normal,fr,h)
 | .region id ops draw,fr,h=>match mL E f cf ops.toList draw (a2D ops) (E.an f id) (b9R h.next (E.an f id)) (yM (E.od f id) draw ops.toList) {} [] (fr.start E f ops.toList draw) (h.reserve (E.an f id).length)with
  |some (fr',h')=>some (.normal,fr',h')
  |none=>none
 | .seq a b,fr,h=>match dM a fr h with
  |some (.normal,fr',h')=>dM b fr' h'
  |r=>r
 | .cond c a b,fr,h=>match bC E fr.tm.get c with
  |some (.v (.bool true))=>dM a fr h
  |some (.v (.bool false))=>dM b fr h
  |_=>none
 | .block id c,fr,h=>match dM c fr h with
  |some (.exit id',fr',h')=>if id'=id then some (.normal,fr',h')else some (.exit id',fr',h')
  |r=>r
 | .loop c,fr,h=>jF (dM c) n fr h
 | .exit id,fr,h=>some (.exit id,fr,h)
 | .scope c,fr,h=>dM c fr h
 | .ret,fr,h=>some (.ret,fr,h)
 |_,_,_=>none
end
def wB(P:Program)(g:Fr)(h:Heap):ResultVar->Option IV
 | .tmp t=>bM (g.tm.get t)
 | .cell a t=>match g.tm.get a with
  |some (.l s off)=>match g.lv.get s with
   |some cs=>fA P t cs off
   |none=>none
  |some (.v (.ptr id off))=>match h.get id with
   | .cells cs=>fA P t cs off
   |_=>none
  |_=>none
def iA(P:Program)(g:Fr)(h:Heap):List ResultVar->Option (List IV)
 | []=>some []
 |r::rs=>match wB P g h r,iA P g h rs with
  |some v,some vs=>some (v::vs)
  |_,_=>none
def eZ:List IV->IV
 | [v]=>v
 |vs=> .tuple vs
def kM:List IV->Nat->PT TV->PT TV
 | [],_,t=>t
 |v::r,i,t=>kM r (i+1) (t.set i (some (.v v)))
def rH(h:Heap):IV->IV×Heap
 | .hslice id off len sz=>match h.get id with
  | .cells cs=>if 0<sz/\off+len*sz<=cs.length then(.vslice none 0 len sz ((cs.drop off).take (len*sz)),h.set id .dead)else(.hslice id off len sz,h)
  |_=>(.hslice id off len sz,h)
 |v=>(v,h)
def uO(g:Heap->IV->IV×Heap)(h:Heap):List IV->List IV×Heap
 | []=>([],h)
 |v::r=>
  let x:=g h v
  let y:=uO g x.2 r
  (x.1::y.1,y.2)
def b3O(h:Heap):IV->IV×Heap
 | .agg cs=>let x:=uO rH h cs; (.agg x.1,x.2)
 |v=>rH h v
def g0E(h:Heap):IV->IV×Heap
 | .tuple vs=>let x:=uO b3O h vs; (.tuple x.1,x.2)
 |v=>b3O h v
def yN(E:Env)(f:FuncId)(ts:List TypeId)(vs:List IV):List IV:=match E.nr f with
 |true=>hY E.P ts vs
 |false=>vs
def jG(E:Env)(f:FuncId)(v:IV)(h:Heap):IV×Heap:=if E.fz f then g0E h v else(v,h)
def iJ(E:Env)(f:FuncId)(cf:FuncId->List IV->Heap->Option (IV×Heap))(n:Nat)(rs:List ResultVar)(c:Code)(g:List IV)(h:Heap):Option (List IV×Heap):=
 match dM E f cf n c ⟨kM g 0 .nil,.nil⟩ h with
 |some (.normal,fr,h')=>(iA E.P fr h' rs).map (·,h')
 |some (.ret,fr,h')=>(iA E.P fr h' rs).map (·,h')
 |_=>none
def a2F(E:Env)(f:FuncId)(vs:List IV)(h:Heap):List IV:=if E.fz f then(uO b3O h vs).1 else vs
def b0C(E:Env)(f:FuncId)(ts:List TypeId)(vs:List IV)(h:Heap):Option IV:=
 let ws:=hY E.P ts (a2F E f vs h)
 if aN ws then some (eZ ws)else none
def jH(E:Env):Nat->FuncId->List IV->Heap->Option (IV×Heap)
 |0,_,_,_=>none
 |n+1,f,args,h=>
  match E.P.funcs[f]? with
  |some fn=>match fn.body with
   |some c=>match E.iso f with
    |false=>match iJ E f (jH E n) n fn.results.toList c (yN E f fn.params.toList args) h with
     |some (vs,h')=>some (jG E f (eZ (yN E f fn.resultTypes.toList vs)) h')
     |none=>none
    |true=>if aN (hY E.P fn.params.toList args)then match iJ E f (jH E n) n fn.results.toList c (hY E.P fn.params.toList args) Heap.empty with
     |some (vs,h')=>(b0C E f fn.resultTypes.toList vs h').map (·,h)
     |none=>none
     else none
   |none=>none
  |none=>none
theorem iY(E:Env)(n:Nat)(f:FuncId)(g:List IV)(h:Heap):jH E (n+1) f g h=
 match E.P.funcs[f]? with
 |some fn=>match fn.body with
  |some c=>match E.iso f with
   |false=>match iJ E f (jH E n) n fn.results.toList c (yN E f fn.params.toList g) h with
    |some (vs,h')=>some (jG E f (eZ (yN E f fn.resultTypes.toList vs)) h')
    |none=>none
   |true=>if aN (hY E.P fn.params.toList g)then match iJ E f (jH E n) n fn.results.toList c (hY E.P fn.params.toList g) Heap.empty with
    |some (vs,h')=>(b0C E f fn.resultTypes.toList vs h').map (·,h)
    |none=>none
    else none
  |none=>none
 |none=>none:=rfl
theorem b9S{n:Nat}{x:TV}{s g:Nat}(h:mJ n x=some (.l s g)): ∃o,x= .l s o:=by
 unfold mJ at h;split at h<;>simp at h
 exact⟨_,by rw [h.1]⟩
theorem d2Z{E:Env}{f:FuncId}{o:Oper}{ev:Operand->Option TV}{s g:Nat}(h:eN E f o ev=some (.l s g,none)): ∃x i,ev x=some (.l s i):=by
 unfold eN at h;split at h
 case h_1 x hx=>
  split at h
  ·cases h
  ·obtain⟨y,h1,h2⟩:=h0W.1 h;simp at h2;subst h2;exact⟨_,_,h1⟩
 case h_2 x hx=>obtain⟨y,h1,h2⟩:=h0W.1 h;simp at h2;subst h2;exact⟨_,_,h1⟩
 case h_3 c a b hx=>
  split at h
  ·obtain⟨y,h1,h2⟩:=h0W.1 h;simp at h2;subst h2;exact⟨_,_,h1⟩
  ·obtain⟨y,h1,h2⟩:=h0W.1 h;simp at h2;subst h2;exact⟨_,_,h1⟩
  ·cases h
 all_goals (repeat' split at h)
 all_goals first
  | (cases h;done)
  | (exfalso;obtain⟨y,h1,h2⟩:=h0W.1 h;simp at h2;done)
  | (simp at h;done)
  | (obtain⟨y,h1,h2⟩:=h0W.1 h;simp only [h2M,and_true]at h2;subst h2;obtain⟨i,rfl⟩:=b9S h1;exact⟨_,_,by assumption⟩)
  | (simp only [h0V,h2M,TV.l.injEq,and_true]at h;obtain⟨rfl,rfl⟩:=h;exact⟨_,_,by assumption⟩)
theorem d3A{E:Env}{f:FuncId}{o:Oper}{ev:Operand->Option TV}{s g d:Nat}{cs:List IV}(h:eN E f o ev=some (.l s g,some cs))(hd:o.dst=some d):s=d:=by
 unfold eN at h
 repeat' split at h
 all_goals first
  | (cases h;done)
  | (simp at h;done)
  | (simp_all;done)
  | (obtain⟨y,h1,h2⟩:=h0W.1 h;simp at h2;done)
  | (obtain⟨y,h1,h2⟩:=h0W.1 h;simp_all;done)
theorem d3B{E:Env}{o:Oper}{ev:Operand->Option TV}{h:Heap}{tv:TV}(g:dP E o ev h=some tv): ∃x,tv= .v x:=by
 unfold dP at g
 repeat' split at g
 all_goals first
  | (cases g;done)
  | (obtain⟨y,_,h2⟩:=h0W.1 g;exact⟨_,h2.symm⟩)
  | (simp only [h0V]at g;exact⟨_,g.symm⟩)
theorem f1N{E:Env}{f:FuncId}{o:Oper}{ev:Operand->Option TV}{h:Heap}{q:Option TV×Heap}{tv:TV}(g:gV E f o ev h=some q)(i:q.1=some tv): ∃x,tv= .v x:=by
 unfold gV at g
 repeat' split at g
 all_goals first
  | (cases g;done)
  | (obtain⟨y,_,h2⟩:=h0W.1 g;subst h2;simp at i;done)
  | (obtain⟨y,_,h2⟩:=h0W.1 g;subst h2;simp only [h0V]at i;exact⟨_,i.symm⟩)
  | (simp only [h0V]at g;subst g;simp only [h0V]at i;exact⟨_,i.symm⟩)
  | (simp only [h0V]at g;subst g;simp at i;done)
theorem e8W{E:Env}{f:FuncId}{o:Oper}{ev:Operand->Option TV}{n:Nat}{q:Option TV×Option IObj}{tv:TV}(g:aSh E f o ev n=some q)(i:q.1=some tv): ∃x,tv= .v x:=by
 unfold aSh at g
 repeat' split at g
 all_goals first
  | (cases g;done)
  | (obtain⟨y,_,h2⟩:=h0W.1 g;subst h2;simp only [h0V]at i;exact⟨_,i.symm⟩)
  | (simp only [h0V]at g;subst g;simp only [h0V]at i;exact⟨_,i.symm⟩)
theorem b3P{g len sz:Nat}{cs:List IV} :pR g len sz cs≠ .free:=by
 unfold pR
 split<;>simp
theorem d3C{E:Env}{f:FuncId}{o:Oper}{ev:Operand->Option TV}{n:Nat}{v:Option TV}{x:IObj}(g:aSh E f o ev n=some (v,some x)):x≠ .free:=by
 unfold aSh at g
 repeat' split at g
 all_goals first
  | (cases g;done)
  | (obtain⟨y,_,h2⟩:=h0W.1 g;simp only [h2M,h0V]at h2;rw [<-h2.2];simp;done)
  | (simp only [h0V,h2M]at g;rw [<-g.2];first|exact b3P|simp)
  | (simp at g;done)
structure Meta where
 nid:Nat
 loc:Nat->Option Nat
 tip:Nat->Nat
 cur:Nat->Nat×Nat
 im:Nat->Nat->Option Value
 bsz:Nat->Option Nat
inductive VR(M:Meta):IV->Value->Prop where
 |bool (b:Bool):VR M (.bool b) (.bool b)
 |int (k:IntKind) (n:Int):VR M (.int k n) (.int k n)
 |str (s:ByteArray):VR M (.str s.data.toList) (.string s)
 |nilptr:VR M .nilptr (.pointer none)
 |ptr {id off b:Nat} (hl:M.loc id=some b):VR M (.ptr id off) (.pointer (some ⟨b,off,none⟩))
 |vref {cs:List IV} {off b base:Nat} (rv:Nat->Value) (him: ∀i,i<cs.length->M.im b (base+i)=some (rv i))
  (hv: ∀(i:Nat)(h:i<cs.length),VR M cs[i] (rv i)) (hc: ∀(i:Nat)(h:i<cs.length),isCell cs[i]=true):VR M (.vref cs off) (.pointer (some ⟨b,base+off,none⟩))
 |nilslice:VR M .nilslice (.slice none 0 0)
 |vnil {sz:Nat} :VR M (.vslice none 0 0 sz []) (.slice none 0 0)
 |hslice {id off len sz cap b:Nat} (a:Addr) (hl:M.loc id=some b) (ha:cap=0\/ (a=⟨b,off,none⟩/\∃n,M.bsz b=some n/\off+cap*sz<=n)) (hlen:len<=cap):
  VR M (.hslice id off len sz) (.slice (some a) len cap)
 |vslice {id:Option Nat} {e len sz cap:Nat} {cs:List IV} (a:Addr) (rv:Nat->Value) (hn:cs.length=len*sz) (hlen:len<=cap)
  (ha:cap=0\/ (a.spot=none/\∃n,M.bsz a.block=some n/\a.off+cap*sz<=n))
  (him: ∀i,i<cs.length->M.im a.block (a.off+i)=some (rv i))
  (hv: ∀(i:Nat)(h:i<cs.length),VR M cs[i] (rv i)) (hc: ∀(i:Nat)(h:i<cs.length),isCell cs[i]=true)
  (ht: ∀i,id=some i->i<M.nid/\cs.length<=e/\e<=M.tip i/\(e=M.tip i->cap=0\/M.cur i=(a.block,a.off+cs.length)))
  (hf:id=none->e=0\/ (e=1/\cap=len/\0<sz)):
  VR M (.vslice id e len sz cs) (.slice (some a) len cap)
 |nilmap:VR M .nilmap (.map none)
 |map {id b:Nat} (hl:M.loc id=some b):VR M (.map id) (.map (some b))
 |func {fn:Fn} {xs ys:List IV} (rx ry:Array Value) (hx:xs.length=rx.size) (hy:ys.length=ry.size)
  (vx: ∀(i:Nat)(h:i<xs.length)(h':i<rx.size),VR M xs[i] rx[i]) (vy: ∀(i:Nat)(h:i<ys.length)(h':i<ry.size),VR M ys[i] ry[i]):VR M (.func fn xs ys) (.func fn rx ry)
 |nilfunc:VR M .nilfunc .nilFunc
 |iface {t:TypeId} {x:IV} {v:Value} (h:VR M x v):VR M (.iface t x) (.iface t v)
 |nilIface:VR M .nilIface .nilIface
 |agg {cs:List IV} (rc:Array Value) (hn:cs.length=rc.size) (hv: ∀(i:Nat)(h:i<cs.length)(h':i<rc.size),VR M cs[i] rc[i])
  (hc: ∀(i:Nat)(h:i<cs.length),isCell cs[i]=true):VR M (.agg cs) (.agg rc)
 |tuple {vs:List IV} (rc:Array Value) (hn:vs.length=rc.size) (hv: ∀(i:Nat)(h:i<vs.length)(h':i<rc.size),VR M vs[i] rc[i]):VR M (.tuple vs) (.tuple rc)
structure Ext(M M':Meta):Prop where
 nid:M.nid<=M'.nid
 loc: ∀id b,M.loc id=some b->M'.loc id=some b
 im: ∀b o v,M.im b o=some v->M'.im b o=some v
 bsz: ∀b n,M.bsz b=some n->M'.bsz b=some n
 tip: ∀i,i<M.nid->M.tip i<=M'.tip i
 cur: ∀i,i<M.nid->M.tip i=M'.tip i->M.cur i=M'.cur i
theorem Ext.refl(M:Meta):Ext M M:=⟨h1D _,fun _ _ h=>h,fun _ _ _ h=>h,fun _ _ h=>h,fun _ _=>h1D _,fun _ _ _=>rfl⟩
theorem Ext.trans{A B C:Meta}(h:Ext A B)(k:Ext B C):Ext A C where
 nid:=h2F h.nid k.nid
 loc:=fun id b e=>k.loc _ _ (h.loc _ _ e)
 im:=fun b o v e=>k.im _ _ _ (h.im _ _ _ e)
 bsz:=fun b n e=>k.bsz _ _ (h.bsz _ _ e)
 tip:=fun i g=>h2F (h.tip i g) (k.tip i (h1C g h.nid))
 cur:=fun i g e=>by
  have h1:=h.tip i g;have h2:=k.tip i (h1C g h.nid);exact(h.cur i g (by omega)).trans (k.cur i (h1C g h.nid) (by omega))
theorem VR.mono{M M':Meta}(l:Ext M M'){x:IV}{r:Value}(h:VR M x r):VR M' x r:=by
 induction h with
 |bool b=>exact .bool b
 |int k n=>exact .int k n
 |str s=>exact .str s
 |nilptr=>exact .nilptr
 |ptr hl=>exact .ptr (l.loc _ _ hl)
 |vref rv him hv hc ih=>exact .vref rv (fun i u=>l.im _ _ _ (him i u)) ih hc
 |nilslice=>exact .nilslice
 |vnil=>exact .vnil
 |hslice a hl g hlen=>
  refine .hslice a (l.loc _ _ hl) ?_ hlen;rcases g with g| ⟨g,n,m,p⟩
  ·exact .inl g
  ·exact .inr ⟨g,n,l.bsz _ _ m,p⟩
 |vslice a rv m hlen g him hv hc ht hf ih=>
  refine .vslice a rv m hlen ?_ (fun i u=>l.im _ _ _ (him i u)) ih hc ?_ hf
  ·rcases g with g| ⟨g,n,m,p⟩
   ·exact .inl g
   ·exact .inr ⟨g,n,l.bsz _ _ m,p⟩
  ·intro i u;obtain⟨h1,K,h2,h3⟩:=ht i u;have:=l.tip i h1;refine⟨h1C h1 l.nid,K,h2F h2 this,fun O=>?_⟩;have j:=h3 (by omega);rcases j with j|j
   ·exact .inl j
   ·exact .inr ((l.cur i h1 (by omega)).symm.trans j)
 |nilmap=>exact .nilmap
 |map hl=>exact .map (l.loc _ _ hl)
 |func G A L D T V z y=>exact .func G A L D z y
 |nilfunc=>exact .nilfunc
 |iface h ih=>exact .iface ih
 |nilIface=>exact .nilIface
 |agg rc m hv hc ih=>exact .agg rc m ih hc
 |tuple rc m hv ih=>exact .tuple rc m ih
theorem VR.isCell{M:Meta}{x:IV}{r:Value}(h:VR M x r):isCell x=r.oneCell':=by
 cases h<;>rfl
def cW(M:Meta)(xs:List IV)(rs:List Value):Prop:=xs.length=rs.length/\∀(i:Nat)(h:i<xs.length)(h':i<rs.length),VR M xs[i] rs[i]
def eB(M:Meta)(xs:List IV)(rs:List Value):Prop:=cW M xs rs/\∀(i:Nat)(h:i<xs.length),isCell xs[i]=true
theorem cW.mono{M M':Meta}(g:Ext M M'){xs:List IV}{rs:List Value}(h:cW M xs rs):cW M' xs rs:=⟨h.1,fun i a b=>(h.2 i a b).mono g⟩
theorem eB.mono{M M':Meta}(g:Ext M M'){xs:List IV}{rs:List Value}(h:eB M xs rs):eB M' xs rs:=⟨h.1.mono g,h.2⟩
theorem cW.nil(M:Meta):cW M [] []:=⟨rfl,fun i h=>absurd h (by simp)⟩
theorem eB.nil(M:Meta):eB M [] []:=⟨cW.nil M,fun i h=>absurd h (by simp)⟩
theorem cW.cons{M:Meta}{x:IV}{r:Value}{xs:List IV}{rs:List Value}(h:VR M x r)(g:cW M xs rs):cW M (x::xs) (r::rs):=by
 refine⟨by simp [g.1],fun i a b=>?_⟩
 cases i with
 |zero=>exact h
 |succ i=>exact g.2 i (by simpa using a) (by simpa using b)
theorem eB.cons{M:Meta}{x:IV}{r:Value}{xs:List IV}{rs:List Value}(h:VR M x r)(j:Pv.isCell x=true)(g:eB M xs rs):eB M (x::xs) (r::rs):=by
 refine⟨g.1.cons h,fun i a=>?_⟩
 cases i with
 |zero=>exact j
 |succ i=>exact g.2 i (by simpa using a)
theorem cW.uncons{M:Meta}{x:IV}{xs:List IV}{rs:List Value}(h:cW M (x::xs) rs): ∃r rs',rs=r::rs'/\VR M x r/\cW M xs rs':=by
 obtain⟨g,j⟩:=h
 cases rs with
 |nil=>simp at g
 |cons r rs'=>
  refine⟨r,rs',rfl,j 0 (by simp) (by simp),by simpa using g,fun i a b=>?_⟩;exact j (i+1) (by simpa using a) (by simpa using b)
theorem cW.get{M:Meta}{xs:List IV}{rs:List Value}(h:cW M xs rs){i:Nat}{x:IV}(l:xs[i]?=some x): ∃r,rs[i]?=some r/\VR M x r:=by
 obtain⟨j,rfl⟩:=h2B.1 l;have g:i<rs.length:=h.1▸j;exact⟨rs[i],h0U g,h.2 i j g⟩
theorem eB.get{M:Meta}{xs:List IV}{rs:List Value}(h:eB M xs rs){i:Nat}{x:IV}(g:xs[i]?=some x): ∃r,rs[i]?=some r/\VR M x r:=h.1.get g
theorem cW.append{M:Meta}{xs i:List IV}{rs g:List Value}(h:cW M xs rs)(k:cW M i g):cW M (xs++i) (rs++g):=by
 induction xs generalizing rs with
 |nil=>cases rs with
  |nil=>simpa using k
  |cons r rs=>simp [cW]at h
 |cons x xs ih=>
  obtain⟨r,j,rfl,h1,h2⟩:=h.uncons;exact(ih h2).cons h1
theorem eB.append{M:Meta}{xs g:List IV}{rs j:List Value}(h:eB M xs rs)(k:eB M g j):eB M (xs++g) (rs++j):=by
 refine⟨h.1.append k.1,fun i a=>?_⟩;rw [h8V];split
 ·exact h.2 _ _
 ·exact k.2 _ _
theorem cW.drop{M:Meta}{xs:List IV}{rs:List Value}(h:cW M xs rs)(n:Nat):cW M (xs.drop n) (rs.drop n):=by
 refine⟨by simp [h.1],fun i a b=>?_⟩;simp only [h5N]at a b;simp only [h6I];exact h.2 _ _ _
theorem cW.take{M:Meta}{xs:List IV}{rs:List Value}(h:cW M xs rs)(n:Nat):cW M (xs.take n) (rs.take n):=by
 refine⟨by simp [h.1],fun i a b=>?_⟩;simp only [h1Y]at a b;simp only [h6J];exact h.2 _ _ _
theorem eB.drop{M:Meta}{xs:List IV}{rs:List Value}(h:eB M xs rs)(n:Nat):eB M (xs.drop n) (rs.drop n):=
 ⟨h.1.drop n,fun i a=>by simp only [h5N]at a;simp only [h6I];exact h.2 _ _⟩
theorem eB.take{M:Meta}{xs:List IV}{rs:List Value}(h:eB M xs rs)(n:Nat):eB M (xs.take n) (rs.take n):=
 ⟨h.1.take n,fun i a=>by simp only [h1Y]at a;simp only [h6J];exact h.2 _ _⟩
theorem eB.len{M:Meta}{xs:List IV}{rs:List Value}(h:eB M xs rs):xs.length=rs.length:=h.1.1
theorem eB.one{M:Meta}{xs:List IV}{rs:List Value}(h:eB M xs rs): ∀v∈rs,v.oneCell'=true:=by
 intro v l;obtain⟨i,j,rfl⟩:=h7C l;have g:i<xs.length:=h.len▸j;rw [<- (h.1.2 i g j).isCell];exact h.2 i g
theorem yO{M:Meta}{cs:List IV}{r:Value}(h:VR M (.agg cs) r): ∃rc:List Value,r= .agg rc.toArray/\eB M cs rc:=by
 cases h with
 |agg rc hn hv hc=>exact⟨rc.toList,by simp,⟨by simpa using hn,fun i a b=>by simpa using hv i a (by simpa using b)⟩,hc⟩
theorem gW{M:Meta}{cs:List IV}{rc:List Value}(h:eB M cs rc):VR M (.agg cs) (.agg rc.toArray):=
 .agg rc.toArray (by simpa using h.len) (fun i a b=>by simpa using h.1.2 i a (by simpa using b)) h.2
theorem b3Q{M:Meta}{cs:List IV}{r:Value}(h:VR M (.tuple cs) r): ∃rc:List Value,r= .tuple rc.toArray/\cW M cs rc:=by
 cases h with
 |tuple rc hn hv=>exact⟨rc.toList,by simp,by simpa using hn,fun i a b=>by simpa using hv i a (by simpa using b)⟩
theorem dT{M:Meta}{cs:List IV}{rc:List Value}(h:cW M cs rc):VR M (.tuple cs) (.tuple rc.toArray):=
 .tuple rc.toArray (by simpa using h.1) (fun i a b=>by simpa using h.2 i a (by simpa using b))
theorem e4J{M:Meta}{fn:Fn}{xs l:List IV}{r:Value}(h:VR M (.func fn xs l) r): ∃j g:List Value,r= .func fn j.toArray g.toArray/\cW M xs j/\cW M l g:=by
 cases h with
 |func j g y p m u=>exact⟨j.toList,g.toList,by simp,⟨by simpa using y,fun i a b=>by simpa using m i a (by simpa using b)⟩,⟨by simpa using p,fun i a b=>by simpa using u i a (by simpa using b)⟩⟩
theorem a2G{M:Meta}{fn:Fn}{xs m:List IV}{j g:List Value}(p:cW M xs j)(l:cW M m g):VR M (.func fn xs m) (.func fn j.toArray g.toArray):=
 .func j.toArray g.toArray (by simpa using p.1) (by simpa using l.1) (fun i a b=>by simpa using p.2 i a (by simpa using b)) (fun i a b=>by simpa using l.2 i a (by simpa using b))
theorem d3D{M:Meta}(s:List UInt8):VR M (.str s) (.string ⟨s.toArray⟩):=VR.str ⟨s.toArray⟩
theorem jI{M:Meta}{x:IV}{r:Value}(h:VR M x r)(g:pP x=true):eB M (cellsOf x) r.cells.toList:=by
 cases h with
 | @agg cs rc hn hv hc=>exact(show eB M cs rc.toList from⟨⟨by simpa using hn,fun i a b=>by simpa using hv i a (by simpa using b)⟩,hc⟩)
 |tuple=>simp [pP]at g
 |_=>exact eB.cons (by first|exact .bool _|exact .int _ _|exact .str _|exact .nilptr|exact .ptr ‹_› |exact .nilslice|exact .vnil|exact .nilmap|exact .map ‹_› |exact .nilfunc|exact .nilIface|exact .iface ‹_› | (constructor<;>assumption)) rfl (eB.nil M)
theorem yP{M:Meta}{v:Value}{x:IV}(h:a9Y v=some x):VR M x v/\isCell x=true:=by
 unfold a9Y at h;split at h<;>simp at h<;>subst h
 ·exact⟨.bool _,rfl⟩
 ·exact⟨.int _ _,rfl⟩
 ·exact⟨.str _,rfl⟩
 ·exact⟨.nilptr,rfl⟩
 ·exact⟨.nilslice,rfl⟩
 ·exact⟨.nilmap,rfl⟩
 ·exact⟨.nilfunc,rfl⟩
 ·exact⟨.nilIface,rfl⟩
theorem a0H{M:Meta} : ∀{l:List Value}{xs:List IV},rD l=some xs->eB M xs l
 | [],xs,h=>by simp [rD]at h;subst h;exact eB.nil M
 |v::r,xs,h=>by
  unfold rD at h;split at h
  ·rename_i x g h1 h2;simp at h;subst h;exact eB.cons (yP (M:=M) h1).1 (yP (M:=M) h1).2 (a0H h2)
  ·simp at h
theorem uQ{M:Meta}{v:Value}{x:IV}(h:ofValue v=some x):VR M x v/\pP x=true:=by
 unfold ofValue at h;split at h
 ·rename_i cs;obtain⟨xs,h1,h2⟩:=h0W.1 h;subst h2;exact⟨by simpa using gW (a0H (M:=M) h1),rfl⟩
 ·have:=yP (M:=M) h;refine⟨this.1,?_⟩;have h2:=this.2
  cases x<;>first|rfl|simp [isCell]at h2
theorem c5A{M:Meta}{g:CK}{v:IV}{r:Value}(h:VR M v r):VR M (a2B g v) r:=by
 unfold a2B
 split
 ·cases h;exact .vnil
 ·cases h with
  |vslice a rv hn hlen ha him hv hc ht hf=>exact .vslice a rv hn hlen ha him hv hc (by simp) (fun _=> .inl rfl)
  |vnil=>exact .vnil
 ·exact h
theorem c9O(g:CK)(v:IV):isCell (a2B g v)=isCell v:=by
 unfold a2B
 split<;>rfl
theorem c5B{M:Meta} : ∀{l:List CK}{vs:List IV}{rs:List Value},cW M vs rs->cW M (nY l vs) rs
 | [],vs,rs,h=>by simpa [nY]using h
 |ck::r,[],rs,h=>by simpa [nY]using h
 |ck::r,v::vs,rs,h=>by
  obtain⟨q,g,rfl,h1,h2⟩:=h.uncons;exact cW.cons (c5A h1) (c5B h2)
theorem b3R: ∀(l:List CK)(vs:List IV),(nY l vs).length=vs.length
 | [],vs=>rfl
 |ck::r,[]=>rfl
 |ck::r,v::vs=>by simp [nY,b3R r vs]
theorem a7K: ∀(l:List CK)(vs:List IV),(∀(i:Nat)(h:i<vs.length),isCell vs[i]=true)-> ∀(i:Nat)(h:i< (nY l vs).length),isCell (nY l vs)[i]=true
 | [],vs,h,i,hi=>h i hi
 |ck::r,[],h,i,hi=>by simp [nY]at hi
 |ck::r,v::vs,h,i,hi=>by
  cases i with
  |zero=>simp only [nY,h6L,c9O];exact h 0 (by simp)
  |succ i=>simp only [nY,h6M];exact a7K r vs (fun j g=>by have:=h (j+1) (by simpa using g);simpa using this) i (by simpa [nY]using hi)
theorem b3S{M:Meta}{l:List CK}{vs:List IV}{rs:List Value}(h:eB M vs rs):eB M (nY l vs) rs:=⟨c5B h.1,a7K l vs h.2⟩
theorem e4K{M:Meta}{P:Program}{t:TypeId}{v:IV}{r:Value}(h:VR M v r):VR M (nZ P t v) r:=by
 unfold nZ
 split
 ·obtain⟨rc,rfl,g⟩:=yO h;exact gW (b3S g)
 ·exact c5A h
theorem wC{M:Meta}{P:Program} : ∀{ts:List TypeId}{vs:List IV}{rs:List Value},cW M vs rs->cW M (hY P ts vs) rs
 | [],vs,rs,h=>by simpa [hY]using h
 |t::ts,[],rs,h=>by simpa [hY]using h
 |t::ts,v::vs,rs,h=>by
  obtain⟨q,g,rfl,h1,h2⟩:=h.uncons;exact cW.cons (e4K h1) (wC h2)
def Meta.pure(M:Meta):Meta:= {M with nid:=0,loc:=fun _=>none }
theorem iZ: ∀{cs:List IV},aN cs=true-> ∀(i:Nat)(h:i<cs.length),bL cs[i]=true
 | [],_,i,hi=>by simp at hi
 |v::r,h,i,hi=>by
  simp only [aN,h0Y]at h
  cases i with
  |zero=>exact h.1
  |succ i=>exact iZ h.2 i (by simpa using hi)
theorem e4L{M M':Meta}(j: ∀b o v,M.im b o=some v->M'.im b o=some v)(l: ∀b n,M.bsz b=some n->M'.bsz b=some n){x:IV}{r:Value}(h:VR M x r):bL x=true->VR M' x r:=by
 induction h with
 |bool b=>intro _;exact .bool b
 |int k n=>intro _;exact .int k n
 |str s=>intro _;exact .str s
 |nilptr=>intro _;exact .nilptr
 |ptr hl=>intro g;simp [bL]at g
 |vref rv hi hv hc ih=>intro g;simp only [bL]at g;exact .vref rv (fun i h=>j _ _ _ (hi i h)) (fun i h=>ih i h (iZ g i h)) hc
 |nilslice=>intro _;exact .nilslice
 |vnil=>intro _;exact .vnil
 |hslice a hl ha hlen=>intro g;simp [bL]at g
 | @vslice id e len sz cap cs a rv hn hlen ha hi hv hc ht hf ih=>
  intro g
  cases id with
  |some id=>simp [bL]at g
  |none=>
   simp only [bL]at g;exact .vslice a rv hn hlen (ha.imp id fun⟨h1,n,h2,h3⟩=>⟨h1,n,l _ _ h2,h3⟩) (fun i h=>j _ _ _ (hi i h)) (fun i h=>ih i h (iZ g i h)) hc (by simp) hf
 |nilmap=>intro _;exact .nilmap
 |map hl=>intro g;simp [bL]at g
 |func z u A y D G p m=>
  intro g;simp only [bL,h0Y]at g;exact .func z u A y (fun i a b=>p i a b (iZ g.1 i a)) (fun i a b=>m i a b (iZ g.2 i a))
 |nilfunc=>intro _;exact .nilfunc
 |iface h ih=>intro g;simp only [bL]at g;exact .iface (ih g)
 |nilIface=>intro _;exact .nilIface
 |agg rc hn hv hc ih=>intro g;simp only [bL]at g;exact .agg rc hn (fun i a b=>ih i a b (iZ g i a)) hc
 |tuple rc hn hv ih=>intro g;simp only [bL]at g;exact .tuple rc hn (fun i a b=>ih i a b (iZ g i a))
theorem b3T{M M':Meta}(j: ∀b o v,M.im b o=some v->M'.im b o=some v)(g: ∀b n,M.bsz b=some n->M'.bsz b=some n){xs:List IV}{rs:List Value}(h:cW M xs rs)(l:aN xs=true):cW M' xs rs:=
 ⟨h.1,fun i a b=>e4L j g (h.2 i a b) (iZ l i a)⟩
section
variable {P:Program} {M:Meta}
def At(w:World)(b base:Nat)(rc:List Value):Prop:= ∀(i:Nat)(h:i<rc.length),w.cell? ⟨b,base+i,none⟩=some rc[i]
theorem dA(b g n:Nat):(⟨b,g,none⟩:Addr).add n=⟨b,g+n,none⟩:=by
 unfold Addr.add;split<;>simp_all
theorem lY{t:TypeId}{g:Bool}{n:Nat}(h:gA P t=some (g,n)):
  ∃d i,P.underlying t=some d/\P.info? t=some i/\a2A d=g/\i.size=n:=by
 unfold gA at h;split at h
 ·rename_i d i h1 h2;simp at h;exact⟨d,i,h1,h2,h.1,h.2⟩
 ·simp at h
theorem oM{t:TypeId}{d:TypeDesc}(h:P.underlying t=some d)(w:World):(isAgg t).run P w= .ok (a2A d) w:=by
 simp only [isAgg,h1K,run_underlying h,h1F]
 cases d<;>rfl
theorem cG{t:TypeId}{i:TypeInfo}(h:P.info? t=some i)(w:World):(sizeOf t).run P w= .ok i.size w:=by
 simp [sizeOf,typeInfo,h]
theorem mM{α:Type}(l:List α)(a n j:Nat)(x:α)(h:((l.drop a).take n)[j]?=some x):j<n/\l[a+j]?=some x:=by
 rw [h4H]at h;split at h
 ·rename_i g;exact⟨g,by simpa [h4N]using h⟩
 ·simp at h
theorem wD{t:TypeId}{cs:List IV}{rc:List Value}{w:World}{b base g:Nat}{v:IV}(u:eB M cs rc)(y:At w b base rc)
  (h:fA P t cs g=some v): ∃r,(loadVar t ⟨b,base+g,none⟩).run P w= .ok r w/\VR M v r:=by
 unfold fA at h;split at h
 ·rename_i n l;obtain⟨d,i,h1,h2,h3,h4⟩:=lY l;split at h
  ·rename_i G;simp at h;subst h;refine⟨.agg ((rc.drop g).take n).toArray,?_,gW ((u.drop g).take n)⟩;have D:((rc.drop g).take n).length=n:=by simp;have:=u.len;omega
   have:=run_loadCells_list (P:=P) w ⟨b,base+g,none⟩ ((rc.drop g).take n) (by
    intro j x K;obtain⟨L,p⟩:=mM _ _ _ _ _ K;obtain⟨m,rfl⟩:=h2B.1 p;rw [dA,h5D];exact y _ m)
   rw [D]at this;simp only [loadVar,h1K,oM h1,h1F,h3,if_true,cG h2,h4,this,h1R]
  ·simp at h
 ·rename_i n l;obtain⟨d,i,h1,h2,h3,h4⟩:=lY l;obtain⟨r,A,z⟩:=u.get h;obtain⟨m,rfl⟩:=h2B.1 A;refine⟨_,?_,z⟩;have:=y g m;simp [loadVar,oM h1,h3,run_load,this]
 ·simp at h
theorem c5C{t:TypeId}{cs:List IV}{rc:List Value}{w:World}{g:Nat}{v:IV}(l:eB M cs rc)
  (h:fA P t cs g=some v): ∃r,(part t rc.toArray g).run P w= .ok r w/\VR M v r:=by
 unfold fA at h;split at h
 ·rename_i n j;obtain⟨d,i,h1,h2,h3,h4⟩:=lY j;split at h
  ·rename_i u;simp at h;subst h;refine⟨.agg ((rc.drop g).take n).toArray,?_,gW ((l.drop g).take n)⟩;simp only [part,h1K,oM h1,h1F,h3,if_true,cG h2,h4,h1R]
   congr 2
   apply h4V;simp [h5Y]
  ·simp at h
 ·rename_i n j;obtain⟨d,i,h1,h2,h3,h4⟩:=lY j;obtain⟨r,p,m⟩:=l.get h;refine⟨r,?_,m⟩;simp [part,oM h1,h3,p]
 ·simp at h
theorem uD{α:Type}(l:List α)(i:Nat)(v:α)(h:i<l.length):(l.set i v).take (i+1)=l.take i++ [v]:=by
 induction l generalizing i with
 |nil=>simp at h
 |cons x l ih=>cases i with
  |zero=>simp
  |succ i=>simp only [h8Y,h8W,h3E];rw [ih i (by simpa using h)]
def oB(rc:List Value)(g:Nat)(c:List Value):List Value:=rc.take g++c++rc.drop (g+c.length)
theorem nO(rc:List Value)(g:Nat)(c:List Value)(h:g+c.length<=rc.length):(oB rc g c).length=rc.length:=by
 simp [oB];omega
theorem eB.spl{cs:List IV}{rc:List Value}(h:eB M cs rc){c:List IV}{r:List Value}(i:eB M c r)(g:Nat):eB M (Pv.spl cs g c) (oB rc g r):=by
 unfold Pv.spl oB
 rw [i.len];exact((h.take g).append i).append (h.drop _)
theorem iB(b:Nat): ∀(vs:List Value)(o:Nat)(w:World)(rc:Array Value)(i:TypeId)(fz:Nat×Nat),w.heap[b]?=some (.cells rc i fz)->o+vs.length<=rc.size->
  ∃g,(w.setCells b o vs).heap[b]?=some (.cells g i fz)/\g.toList=oB rc.toList o vs
 | [],o,w,rc,i,fz,h,_=>⟨rc,h,by simp [oB]⟩
 |v::r,o,w,rc,i,fz,h,hl=>by
  simp only [h1O]at hl;have h1:(w.setCell ⟨b,o,none⟩ v).heap[b]?=some (.cells (rc.setIfInBounds o v) i fz):=by
   simp [World.setCell,h3W,h]
  obtain⟨g,h2,h3⟩:=iB b r (o+1) _ _ _ _ h1 (by simp;omega);refine⟨g,h2,?_⟩;rw [h3];simp only [oB,h7H,h1O];have l:(rc.toList.set o v).take (o+1)=rc.toList.take o++ [v]:=uD _ _ _ (by simp;omega);have j:(rc.toList.set o v).drop (o+1+r.length)=rc.toList.drop (o+(r.length+1)):=by
   rw [List.drop_set,if_pos (by omega),show o+1+r.length=o+(r.length+1) by omega]
  rw [l,j];simp
theorem fB(b:Nat): ∀(vs:List Value)(o:Nat)(w:World)(k:Nat),k≠b->(w.setCells b o vs).heap[k]?=w.heap[k]?
 | [],_,_,_,_=>rfl
 |v::r,o,w,k,h=>by
  rw [World.setCells,fB b r (o+1) _ k h];simp only [World.setCell,h3W];rw [if_neg (by simpa using fun e=>h e.symm)]
theorem fS(b:Nat): ∀(vs:List Value)(o:Nat)(w:World),(w.setCells b o vs).heap.size=w.heap.size
 | [],_,_=>rfl
 |v::r,o,w=>by rw [World.setCells,fS b r (o+1)];simp
theorem fT(b:Nat): ∀(vs:List Value)(o:Nat)(w:World),(w.setCells b o vs).os=w.os/\(w.setCells b o vs).tape=w.tape/\(w.setCells b o vs).output=w.output
 | [],_,_=>⟨rfl,rfl,rfl⟩
 |v::r,o,w=>by
  rw [World.setCells];exact fT b r (o+1) _
theorem b3U{t:TypeId}{cs cs':List IV}{rc:Array Value}{w:World}{b g:Nat}{v:IV}{rv:Value}{Z:TypeId}{fz:Nat×Nat}(hc:eB M cs (rc.toList.take cs.length))
  (hb:w.heap[b]?=some (.cells rc Z fz)) (hf: ∀i,i<rc.size->w.frozen? ⟨b,i,none⟩=false) (hv:VR M v rv)
  (h:a7H P t cs g v=some cs'):
  ∃p,(storeVar t ⟨b,g,none⟩ rv).run P w= .ok () (w.setCells b g rv.cells.toList)/\(w.setCells b g rv.cells.toList).heap[b]?=some (.cells p Z fz)/\
   p.size=rc.size/\cs'.length=cs.length/\eB M cs' (p.toList.take cs'.length)/\p.toList.drop cs.length=rc.toList.drop cs.length:=by
 unfold a7H at h;simp only at h;split at h
 case isFalse=>simp at h
 rename_i D;split at h
 case h_2=>simp at h
 rename_i n O;split at h
 case isFalse=>simp at h
 rename_i y;obtain⟨X,a0⟩:=y;simp at h;have z:=jI hv D;have T: ∃i,P.info? t=some i/\i.size=n:=by
  unfold gB at O
  cases G:P.info? t with
  |none=>simp [G]at O
  |some i=>exact⟨i,rfl,by simpa [G]using O⟩
 obtain⟨i,G,L⟩:=T;have a1:cs.length<=rc.size:=by have:=hc.len;simp at this;omega
 have m:rv.cells.toList.length=n:=by rw [<-z.len,X]
 obtain⟨p,h1,h2⟩:=iB b rv.cells.toList g w rc Z fz hb (by rw [m];omega);have u:cs'=Pv.spl cs g (cellsOf v):=by rw [<-h];simp [Pv.spl,X]
 have r:cs'.length=cs.length:=by rw [u];simp [Pv.spl,X];omega
 have A:p.size=rc.size:=by
  have:=congrArg List.length h2;rw [nO _ _ _ (by rw [m];simp;omega)]at this;simpa using this
 refine⟨p,?_,h1,A,r,?_,?_⟩
 ·have K:=run_storeCells_cells (P:=P) b g rv.cells.toList 0 w (by
    intro j Y;rw [m]at Y;simp only [World.cell?,hb,h6U];simp [show g+j<rc.size from by omega])
   (by
    intro j Y;rw [m]at Y;simpa using hf (g+j) (by omega)) z.one
  have V:rv.cells.size=i.size:=by rw [L,<-m];simp
  simp only [storeVar,h1K,cG G,h1F];rw [if_neg (by simpa using V)];simpa using K
 ·rw [r,u,h2];have e:(oB rc.toList g rv.cells.toList).take cs.length=oB (rc.toList.take cs.length) g rv.cells.toList:=by
   simp only [oB,m];rw [h5O,h5O];simp only [h1Y,h1E,m,h8K];rw [show min g rc.toList.length=g from by simp;omega];rw [show min cs.length g=g from by omega,show min g cs.length=g from by omega];rw [h1H (l:=rv.cells.toList) (by rw [m];omega)]
   congr 1
   rw [List.drop_take]
  rw [e];exact hc.spl z g
 ·rw [h2];simp only [oB,m];rw [List.drop_append,List.drop_append];simp only [h1Y,h1E,m];rw [show min g rc.toList.length=g from by simp;omega];rw [h8J (by simp;omega),h8J (by rw [m];omega)];rw [List.drop_drop,show g+n+(cs.length- (g+n))=cs.length from by omega];rfl
def PR(M:Meta):List (Nat×IV)->List (Nat×Value)->Prop
 | [],[]=>True
 | (i,x)::r,(j,v)::s=>i=j/\VR M x v/\PR M r s
 |_,_=>False
theorem a7L(g:Nat): ∀(l:List Value)(k:Nat)(rc:Array Value),g+k+l.length<=rc.size->
  ((l.zipIdx k).foldl (fun cs (c,j)=>cs.setIfInBounds (g+j) c) rc).toList=oB rc.toList (g+k) l
 | [],k,rc,_=>by simp [oB]
 |c::l,k,rc,h=>by
  simp only [h1O]at h;simp only [List.zipIdx_cons,h8D];rw [a7L g l (k+1) (rc.setIfInBounds (g+k) c) (by simp;omega)];simp only [oB,h7H,h1O];have m:(rc.toList.set (g+k) c).take (g+(k+1))=rc.toList.take (g+k)++ [c]:=uD _ _ _ (by simp;omega);have i:(rc.toList.set (g+k) c).drop (g+(k+1)+l.length)=rc.toList.drop (g+k+(l.length+1)):=by
   rw [List.drop_set,if_pos (by omega),show g+(k+1)+l.length=g+k+(l.length+1) by omega]
  rw [m,i];simp
theorem b0D{β:Type}(a:Array Value)(f:β->Value×Nat->β)(z:β):a.zipIdx.foldl f z=(a.toList.zipIdx).foldl f z:=by
 rw [<-Array.foldl_toList,Array.toList_zipIdx]
theorem wE{g:Nat->Option (Nat×Nat)} : ∀{ps:List (Nat×IV)}{rs:List (Nat×Value)}{cells:List IV}{rc:Array Value}{l:List IV},PR M ps rs->eB M cells rc.toList->
  nJ g cells ps=some l-> ∃ro:Array Value,Instr.fill g rc rs=some ro/\eB M l ro.toList
 | [],[],cells,rc,l,_,hc,h=>by simp [nJ]at h;subst h;exact⟨rc,rfl,hc⟩
 | [],_::_,_,_,_,p,_,_=>p.elim
 |_::_,[],_,_,_,p,_,_=>p.elim
 | (i,x)::r,(j,v)::s,cells,rc,l,p,hc,h=>by
  obtain⟨rfl,D,p⟩:=p;unfold nJ at h;unfold Instr.fill
  cases hpl:g i with
  |none=>simp [hpl]at h
  |some q=>
   obtain⟨z,n⟩:=q;simp only [hpl]at h⊢;split at h
   case isFalse=>simp at h
   rename_i m;obtain⟨h1,h2,h3⟩:=m;have A:=jI D h3;have y:v.cells.size=n:=by have:=A.len;simp at this;omega
   have u:rc.size=cells.length:=by have:=hc.len;simpa using this.symm
   rw [if_neg (by simp [y,u];omega)];refine wE (ps:=r) p ?_ h;rw [b0D];have:=a7L z v.cells.toList 0 rc (by simp [y,u];omega);simp only [h6U]at this;rw [this];exact hc.spl A z
end
section
variable {P:Program} {M:Meta} (w:World)
theorem b9T{op:BinOp}{k:IntKind}{a b:Int}{v:IV}(t:TypeId)(h:rE op k a b=some v): ∃r,(binOp op t (.int k a) (.int k b)).run P w= .ok r w/\VR M v r:=by
 cases op<;>simp only [rE]at h
 case quo=>
  split at h
  ·simp at h
  ·rename_i g;simp at h;subst h;exact⟨_,by simp [binOp,Op.intDiv,g],.int _ _⟩
 case rem=>
  split at h
  ·simp at h
  ·rename_i g;simp at h;subst h;exact⟨_,by simp [binOp,Op.intDiv,g],.int _ _⟩
 all_goals (first| (simp at h;done)| (simp only [h0V]at h;subst h))
 ·exact⟨_,by rw [binOp_add];rfl,.int _ _⟩
 ·exact⟨_,by rw [binOp_sub];rfl,.int _ _⟩
 ·exact⟨_,by rw [binOp_mul];rfl,.int _ _⟩
 ·exact⟨_,by rw [binOp_and];rfl,.int _ _⟩
 ·exact⟨_,by rw [binOp_or];rfl,.int _ _⟩
 ·exact⟨_,by rw [binOp_xor];rfl,.int _ _⟩
 ·exact⟨_,by rw [binOp_andNot];rfl,.int _ _⟩
 ·exact⟨_,by rw [binOp_eql];rfl,.bool _⟩
 ·exact⟨_,by rw [binOp_neq];rfl,.bool _⟩
 ·exact⟨_,by rw [binOp_lss];rfl,.bool _⟩
 ·exact⟨_,by rw [binOp_leq];rfl,.bool _⟩
 ·exact⟨_,by rw [binOp_gtr];rfl,.bool _⟩
 ·exact⟨_,by rw [binOp_geq];rfl,.bool _⟩
theorem wF{op:BinOp}{k yk:IntKind}{a b:Int}{v:IV}(t:TypeId)(i:op= .shl\/op= .shr)(h:oJ op k a b=some v):
  ∃r,(binOp op t (.int k a) (.int yk b)).run P w= .ok r w/\VR M v r:=by
 unfold oJ at h;split at h
 ·simp at h
 ·rename_i g;rcases i with rfl|rfl<;>simp only [h0V]at h<;>subst h
  ·exact⟨_,by rw [binOp_shl];simp [Op.shift,g],.int _ _⟩
  ·exact⟨_,by rw [binOp_shr];simp [Op.shift,g],.int _ _⟩
theorem b9U{op:BinOp}{a b:ByteArray}{v:IV}(t:TypeId)(h:a2C op a.data.toList b.data.toList=some v):
  ∃r,(binOp op t (.string a) (.string b)).run P w= .ok r w/\VR M v r:=by
 have l:=ByteArray.toList_eq a;have i:=ByteArray.toList_eq b
 cases op<;>simp only [a2C]at h
 case add=>
  split at h
  ·simp at h
  ·rename_i g;simp only [h0V]at h;subst h;have j: ¬ (((a.size+b.size:Nat):Int)>IntKind.i64.max):=by
    rw [IntKind.max_i64];simp only [h4Z]at g;exact g
   refine⟨.string (a++b),?_,?_⟩
   ·simp only [binOp,Op.stringOp];rw [if_neg j];rfl
   ·have:=VR.str (M:=M) (a++b)
    rwa [show(a++b).data.toList=a.data.toList++b.data.toList from by simp]at this
 all_goals first
  | (simp at h;done)
  | (simp only [h0V]at h;subst h;exact⟨_,by simp [binOp,Op.stringOp,l,i],.bool _⟩)
theorem rI{d:TypeDesc}{x y:IV}{r:Bool}{a b:Value}{t:TypeId}(n:Nat)(i:P.underlying t=some d)(h:dO d x y=some r)(j:VR M x a)(g:VR M y b):
  (Op.equalIn (n+1) t a b).run P w= .ok r w:=by
 unfold dO at h;split at h
 ·simp at h;subst h;cases j;cases g;exact run_equalIn_bool w n t _ _ i
 ·split at h
  ·rename_i l;simp at h;subst h;subst l;cases j;cases g;exact run_equalIn_int w n t _ _ _ _ i
  ·simp at h
 ·simp at h;subst h
  cases j with|str m=>cases g with|str p=>
  rw [run_equalIn_string w n t _ _ i,ByteArray.toList_eq,ByteArray.toList_eq]
 ·simp at h
theorem lZ{t:TypeId}{d:TypeDesc}{rc:List Value}{g:Nat}{r:Value}(i:P.underlying t=some d)(hd:a2A d=false)(h:rc[g]?=some r):
  (part t rc.toArray g).run P w= .ok r w:=by
 simp [part,oM i,hd,h]
theorem kN{d:TypeDesc}{x y:IV}{r:Bool}(h:dO d x y=some r):a2A d=false:=by
 cases d<;>first|rfl|simp [dO]at h
theorem a0I(n:Nat){xs ys:List IV}{rx ry:List Value}(hx:eB M xs rx)(hy:eB M ys ry): ∀{fs:List Field}{r:Bool},mI P fs xs ys=some r->
  (Op.eqFields (n+1) rx.toArray ry.toArray fs).run P w= .ok r w
 | [],r,h=>by simp [mI]at h;subst h;rfl
 |f::fs,r,h=>by
  unfold mI at h;split at h
  ·simp at h
  rename_i hn
  have hn' : f.name ≠ "_" := by simpa using hn
  split at h
  case h_2=>simp at h
  rename_i d x y h1 h2 h3;obtain⟨a,ha,va⟩:=hx.get h2;obtain⟨b,hb,vb⟩:=hy.get h3;split at h
  ·rename_i hs;have e1:=lZ (P:=P) w h1 (kN hs) ha;have e2:=lZ (P:=P) w h1 (kN hs) hb;have e3:=rI (P:=P) w n h1 hs va vb;simp only [Op.eqFields,if_pos hn',h1K,e1,e2,e3,h1F,h8S,h1X,if_false];exact a0I n hx hy h
  ·rename_i hs;simp at h;subst h;have e1:=lZ (P:=P) w h1 (kN hs) ha;have e2:=lZ (P:=P) w h1 (kN hs) hb;have e3:=rI (P:=P) w n h1 hs va vb;simp only [Op.eqFields,if_pos hn',h1K,e1,e2,e3,h1F,h8L,if_true,h1R]
  ·simp at h
theorem c5D{c:Bool}{t:TypeId}{x y:IV}{r:Bool}{a b:Value}(op:BinOp)(m p:Operand)(V:c=(kL m||kL p))(h:c9N P c t x y=some r)(l:VR M x a)(j:VR M y b):
  (Op.equal t a b).run P w= .ok r w/\(eqGuard op t m p a b).run P w= .ok () w:=by
 unfold c9N at h
 cases hu:P.underlying t with
 |none=>simp [hu]at h
 |some d=>
  have base:dO d x y=some r->(Op.equal t a b).run P w= .ok r w/\(eqGuard op t m p a b).run P w= .ok () w:=by
   intro u;refine⟨rI w 9999 hu u l j,?_⟩;unfold dO at u;split at u
   ·cases l;cases j;rw [eqGuard_at_bool];rfl
   ·cases l;cases j;rw [eqGuard_at_int];rfl
   ·cases l;cases j;rw [eqGuard_at_string];rfl
   ·simp at u
  have g: ∀(k:Nat),(∀n,(Op.equalIn (n+1) t a b).run P w= .ok r w)->(Op.equal t a b).run P w= .ok r w:=fun _ L=>L 9999
  simp only [hu]at h
  cases d<;>simp only at h<;>first|exact base h|skip
  case struct fs=>
   split at h
   case h_2=>simp at h
   rename_i xs X;split at h
   ·simp at h
   rename_i A;simp only [h2Z,not_or,h7R]at A;obtain⟨O,rfl,T⟩:=yO l;obtain⟨K,rfl,G⟩:=yO j;refine⟨?_,run_eqGuard_agg w op t m p _ _ A.2⟩;have D:P.fieldsOf t=fs:=by simp [Program.fieldsOf,hu]
   have:=run_equalIn_struct (P:=P) w 9999 t O.toArray K.toArray (by rw [D];exact hu) A.1;rw [D]at this;show(Op.equalIn (9999+1) t _ _).run P w=_;rw [this];exact a0I w 9998 T G h
  case pointer e=>
   split at h
   all_goals (first| (simp at h;done)|skip)
   all_goals
    simp only [h0V]at h;subst h
    cases l
    cases j
    refine⟨g 9999 (by intro n;simp [Op.equalIn,run_underlying hu]),by rw [eqGuard_at_pointer];rfl⟩
  case interface ms=>
   split at h
   case h_1=>
    split at h
    case isFalse=>simp at h
    rename_i i;simp at h;subst h;cases l;cases j;refine⟨g 9999 (by intro n;simp [Op.equalIn,run_underlying hu]),?_⟩;rw [V,h2Z]at i;have:((match m with| .const _=>true|_=>false)|| (match p with| .const _=>true|_=>false))=true:=by
     rcases i with i|i<;>(unfold kL at i;split at i<;>simp_all)
    cases m<;>cases p<;>first| (simp [kL]at i;done)| (cases op<;>rfl)
   all_goals (first| (simp at h;done)|skip)
   all_goals
    simp only [h0V]at h;subst h
    cases l
    cases j
    refine⟨g 9999 (by intro n;simp [Op.equalIn,run_underlying hu]),by cases op<;>rfl⟩
  case slice e=>
   split at h
   all_goals (first| (simp at h;done)|skip)
   case h_4=>
    split at h
    case isFalse=>simp at h
    rename_i z;simp only [h0V]at h;subst h
    cases l
    cases j
    ·simp at z
    ·refine⟨g 9999 (by intro n;simp [Op.equalIn,run_underlying hu]),by rw [eqGuard_at_slice];rfl⟩
   case h_5=>
    split at h
    case isFalse=>simp at h
    rename_i z;simp only [h0V]at h;subst h
    cases j
    cases l
    ·simp at z
    ·refine⟨g 9999 (by intro n;simp [Op.equalIn,run_underlying hu]),by rw [eqGuard_at_slice];rfl⟩
   all_goals
    simp only [h0V]at h;subst h
    cases l
    cases j
    refine⟨g 9999 (by intro n;simp [Op.equalIn,run_underlying hu]),by rw [eqGuard_at_slice];rfl⟩
  case map k e=>
   split at h
   all_goals (first| (simp at h;done)|skip)
   all_goals
    simp only [h0V]at h;subst h
    cases l
    cases j
    refine⟨g 9999 (by intro n;simp [Op.equalIn,run_underlying hu]),by rw [eqGuard_at_map];rfl⟩
  case func ps rs vr=>
   split at h
   all_goals (first| (simp at h;done)|skip)
   all_goals
    simp only [h0V]at h;subst h
    cases l
    cases j
    refine⟨g 9999 (by intro n;simp [Op.equalIn,run_underlying hu]),by first| (rw [eqGuard_at_nilFunc];rfl)| (rw [eqGuard_at_func];rfl)⟩
end
section
variable {P:Program} {M:Meta} (w:World)
theorem c9P{t:TypeId}{x y:IV}{a b:Value}(j:VR M x a)(g:VR M y b)(i: ∀k p k' q,¬ (x= .int k p/\y= .int k' q))(l: ∀p q,¬ (x= .str p/\y= .str q)):
  binOp .eql t a b=(do pure (.bool (<-Op.equal t a b)))/\binOp .neq t a b=(do pure (.bool (!(<-Op.equal t a b)))):=by
 cases j
 case int k n=>
  cases g
  case int k' m=>exact absurd ⟨rfl,rfl⟩ (i k n k' m)
  all_goals exact⟨by simp [binOp],by simp [binOp]⟩
 case str p=>
  cases g
  case str q=>exact absurd ⟨rfl,rfl⟩ (l _ _)
  all_goals exact⟨by simp [binOp],by simp [binOp]⟩
 all_goals exact⟨by simp [binOp],by simp [binOp]⟩
theorem d3E{op:BinOp}{c:Bool}{t:TypeId}{x y v:IV}{a b:Value}(l m:Operand)(D:c=(kL l||kL m))(A:VR M x a)(z:VR M y b)(h:nL P op c t x y=some v):
  ∃r,(do eqGuard op t l m a b;binOp op t a b:Sem Value).run P w= .ok r w/\VR M v r:=by
 unfold nL at h;split at h
 ·rename_i k p j q
  cases A;cases z
  have u:(eqGuard op t l m (.int k p) (.int j q)).run P w= .ok () w:=by rw [eqGuard_at_int];rfl
  split at h
  ·obtain⟨r,h1,h2⟩:=wF (P:=P) (M:=M) (yk:=j) w t (.inl rfl) h;exact⟨r,by simp only [h1K,u,h1F];exact h1,h2⟩
  ·obtain⟨r,h1,h2⟩:=wF (P:=P) (M:=M) (yk:=j) w t (.inr rfl) h;exact⟨r,by simp only [h1K,u,h1F];exact h1,h2⟩
  ·split at h
   ·rename_i O;subst O;obtain⟨r,h1,h2⟩:=b9T (P:=P) (M:=M) w t h;exact⟨r,by simp only [h1K,u,h1F];exact h1,h2⟩
   ·simp at h
 ·cases A with|str p=>cases z with|str q=>
  have u:(eqGuard op t l m (.string p) (.string q)).run P w= .ok () w:=by rw [eqGuard_at_string];rfl
  obtain⟨r,h1,h2⟩:=b9U (P:=P) (M:=M) w t h;exact⟨r,by simp only [h1K,u,h1F];exact h1,h2⟩
 ·rename_i X G;have K: ∀k p j q,¬ (x= .int k p/\y= .int j q):=fun k p j q ⟨g,i⟩=>X k p j q g i
  have L: ∀p q,¬ (x= .str p/\y= .str q):=fun p q ⟨g,i⟩=>G p q g i
  obtain⟨V,T⟩:=c9P (t:=t) A z K L;split at h
  ·obtain⟨r,h1,h2⟩:=h0W.1 h;subst h2;obtain⟨g,i⟩:=c5D (P:=P) w .eql l m D h1 A z;exact⟨.bool r,by simp only [h1K,i,h1F,V,g,h1R],.bool _⟩
  ·obtain⟨r,h1,h2⟩:=h0W.1 h;subst h2;obtain⟨g,i⟩:=c5D (P:=P) w .neq l m D h1 A z;exact⟨.bool !r,by simp only [h1K,i,h1F,T,g,h1R],.bool _⟩
  ·simp at h
theorem e4M{op:UnOp}{x v:IV}{a:Value}(g:VR M x a)(h:f1M op x=some v): ∃r,(Op.unary op a).run P w= .ok r w/\VR M v r:=by
 unfold f1M at h;split at h
 ·simp only [h0V]at h;subst h;cases g;exact⟨_,by simp only [Op.unary,Op.intArith];rfl,.int _ _⟩
 ·rename_i k n;simp only [rE,h0V]at h;subst h;cases g;exact⟨_,by simp only [Op.unary,Op.intBits];rfl,.int _ _⟩
 ·simp at h;subst h;cases g;exact⟨_,by simp only [Op.unary];rfl,.bool _⟩
 ·simp at h
theorem a2H: ∀{cs:List IV}{rc:List Value}{b:List UInt8},cW M cs rc->lW cs=some b-> ∃g:List Int,rc=g.map (Value.int .u8)/\b=g.map fun n=>UInt8.ofNat n.toNat
 | [],rc,b,hv,h=>by
  cases rc with
  |nil=>simp [lW]at h;subst h;exact⟨[],rfl,rfl⟩
  |cons r rs=>simp [cW]at hv
 |x::cs,rc,b,hv,h=>by
  obtain⟨r,i,rfl,h1,h2⟩:=hv.uncons;unfold lW at h;split at h
  case h_1 e=>simp at e
  case h_2 n r' e=>
   simp only [h2I]at e;obtain⟨rfl,rfl⟩:=e;obtain⟨m,h3,h4⟩:=h0W.1 h;subst h4
   cases h1
   obtain⟨g,j,l⟩:=a2H h2 h3;exact⟨n::g,by simp [j],by simp [l]⟩
  case h_3=>simp at h
theorem oN{cs:List IV}{rc:List Value}{b:List UInt8}{a:Addr}{cap:Nat}(i:cW M cs rc)(h:lW cs=some b)
  (hm:(loadCells a rc.length).run P w= .ok rc.toArray w):(Conv.bytesToString (.slice (some a) rc.length cap)).run P w= .ok (.string ⟨b.toArray⟩) w:=by
 obtain⟨g,h1,h2⟩:=a2H i h;rw [run_bytesToString w a rc.length cap g (by rw [hm,h1]),foldl_push_bytes,h2];show Result.ok (Value.string ⟨#[]++_⟩) w=_;simp
theorem wG{rc:List Value}{b base:Nat}(h:At w b base rc):(loadCells ⟨b,base,none⟩ rc.length).run P w= .ok rc.toArray w:=
 run_loadCells_list (P:=P) w ⟨b,base,none⟩ rc (fun j v i=>by
  obtain⟨g,rfl⟩:=h2B.1 i;rw [dA];exact h _ g)
theorem c9Q{s d:TypeId}{x v:IV}{a:Value}(y: ∀b o u,M.im b o=some u->w.cell? ⟨b,o,none⟩=some u)(l:VR M x a)(h:b0A P s d x=some v):
  ∃r,(convert s d a).run P w= .ok r w/\VR M v r:=by
 unfold b0A at h
 cases hs:P.underlying s with
 |none=>simp [hs]at h
 |some ds=>
  cases hd:P.underlying d with
  |none=>simp [hs,hd]at h
  |some dd=>
   simp only [hs,hd]at h;split at h
   ·simp only [h0V]at h;subst h;cases l;exact⟨_,by simp [convert,run_underlying hs,run_underlying hd,Conv.intToInt],.int _ _⟩
   ·simp only [h0V]at h;subst h;cases l;exact⟨_,by simp [convert,run_underlying hs,run_underlying hd],.str _⟩
   ·split at h
    case h_2=>simp at h
    rename_i e;split at h
    case h_2=>simp at h
    rename_i m;split at h
    ·simp only [h0V]at h;subst h;cases l;refine⟨_,by rw [run_convert_bytes_string w s d e _ _ _ hs m hd];rfl,?_⟩;exact VR.str (M:=M) ByteArray.empty
    ·rename_i D e' len cs z;clear z;obtain⟨b,h1,h2⟩:=h0W.1 h;subst h2
     cases l with
     |vnil=>
      simp only [lW,h0V]at h1;subst h1;refine⟨_,by rw [run_convert_bytes_string w s d e _ _ _ hs m hd];rfl,?_⟩;exact VR.str (M:=M) ByteArray.empty
     | @vslice _ _ _ _ cap _ a rv hn hlen ha him' hv hc ht hf=>
      refine⟨.string ⟨b.toArray⟩,?_,d3D b⟩;rw [run_convert_bytes_string w s d e _ _ _ hs m hd];have g:cap=0\/a.spot=none:=ha.imp id (·.1);have G:cW M cs ((List.range cs.length).map rv):=⟨by simp,fun i p q=>by simpa using hv i p⟩;have K:((List.range cs.length).map rv).length=len:=by simp [hn]
      rw [<-K];refine oN w G h1 ?_
      by_cases h0:cs.length=0
      ·simp [h0,loadCells,loadCellsFrom]
      ·have j:a.spot=none:=by
        rcases g with g|g
        ·omega
        ·exact g
       obtain⟨T,O,L⟩:=a;simp only at j;subst j;exact wG w (fun i A=>by simp at A;simpa using y _ _ _ (him' i A))
    ·simp at h
   ·simp at h
theorem pT{tv:Option TV}{n:Int}(h:asI tv=some n): ∃k,tv=some (.v (.int k n)):=by
 unfold asI at h;split at h
 ·simp at h;subst h;exact⟨_,rfl⟩
 ·simp at h
theorem rJ{k:IntKind}{i:Int}{y:Nat}{g:BoundsCode}(h:0<=i/\i<=y):(Instr.sliceBound (.int k i) y g).run P w= .ok i.toNat w:=by
 simp [Instr.sliceBound,asIntOf,h]
def BR(M:Meta):Option (Option TV)->Option Value->Prop
 |none,none=>True
 |some (some (.v x)),some r=>VR M x r
 |some (some (.l _ _)),some _=>True
 |some (some .u),some _=>True
 |some none,some _=>True
 |_,_=>False
theorem b3V{o:Option (Option TV)}{r:Option Value}{d n:Int}(e:(match o with|none=>some d|some x=>asI x)=some n)(b:BR M o r):
  (r=none/\d=n) \/ ∃k,r=some (.int k n):=by
 cases o with
 |none=>
  cases r with
  |none=>simp at e;exact .inl ⟨rfl,e⟩
  |some r=>exact b.elim
 |some tv=>
  obtain⟨k,rfl⟩:=pT e
  cases r with
  |none=>exact b.elim
  |some r=>cases b;exact .inr ⟨k,rfl⟩
theorem jJ{isSlice:Bool}{len cap l h:Nat}{A y:Option (Option TV)}{m j:Option Value}(L:len<=cap)(p:BR M A m)(u:BR M y j)(i:gT len A y=some (l,h)):
  l<=h/\h<=len/\(Instr.sliceBounds isSlice len cap m j none).run P w= .ok (l,h,cap) w:=by
 unfold gT at i;simp only at i;split at i
 case h_2=>simp at i
 rename_i z h' K O;split at i
 case isFalse=>simp at i
 rename_i G;obtain⟨Y,X,T⟩:=G;simp only [h0V,h2M]at i;obtain⟨rfl,rfl⟩:=i;refine⟨by omega,by omega,?_⟩;have r1: ∀k g,(Instr.sliceBound (.int k h') cap g).run P w= .ok h'.toNat w:=fun k g=>rJ w ⟨by omega,by omega⟩
 have r: ∀k g,(Instr.sliceBound (.int k z) h'.toNat g).run P w= .ok z.toNat w:=fun k g=>rJ w ⟨by omega,by omega⟩
 rcases b3V K p with⟨rfl,q1⟩| ⟨k1,rfl⟩<;>rcases b3V O u with⟨rfl,D⟩| ⟨V,rfl⟩
 ·subst q1;subst D;simp [Instr.sliceBounds]
 ·subst q1;simp [Instr.sliceBounds,r1]
 ·subst D;simp only [h0Z]at r;simp [Instr.sliceBounds,r]
 ·simp [Instr.sliceBounds,r1,r]
end
section
variable {P:Program} {M:Meta} (w:World)
theorem dK{t:TypeId}{n:Nat}(h:gB P t=some n): ∃i,P.info? t=some i/\i.size=n:=by
 unfold gB at h;obtain⟨i,h1,h2⟩:=h0W.1 h;exact⟨i,h1,h2⟩
theorem mA{t:TypeId}{n:Nat}(h:iH P t=some n): ∃i,P.info? t=some i/\i.bytes=n:=by
 unfold iH at h;obtain⟨i,h1,h2⟩:=h0W.1 h;exact⟨i,h1,h2⟩
theorem eG{t:TypeId}{z:IV}(h:cV P t=some z): ∃i r,P.info? t=some i/\i.zero=some r/\VR M z r/\pP z=true:=by
 unfold cV at h;obtain⟨r,h1,h2⟩:=h2W.1 h;obtain⟨i,h3,h4⟩:=h2W.1 h1;exact⟨i,r,h3,h4,(uQ (M:=M) h2).1,(uQ (M:=M) h2).2⟩
theorem a6R{id:Option Nat}{e len sz l h cap:Nat}{cs:List IV}{a:Option Addr}(Y:VR M (.vslice id e len sz cs) (.slice a len cap))(Z:l<=h)(hh:h<=len):
  VR M (.vslice id (e- (len-h)*sz) (h-l) sz ((cs.drop (l*sz)).take ((h-l)*sz))) (.slice (if cap=l then a else a.map (·.add (l*sz))) (h-l) (cap-l)):=by
 cases Y with
 |vnil=>
  obtain rfl:h=0:=by omega
  obtain rfl:l=0:=by omega
  simpa using VR.vnil
 |vslice a rv hn hlen ha him hv hc ht hf=>
  have L:l*sz+(h-l)*sz=h*sz:=by rw [<-Nat.add_mul];congr 1;omega
  have D:h*sz+(len-h)*sz=len*sz:=by rw [<-Nat.add_mul];congr 1;omega
  have g:((cs.drop (l*sz)).take ((h-l)*sz)).length=(h-l)*sz:=by simp;omega
  have p:id=none->e- (len-h)*sz=0\/ (e- (len-h)*sz=1/\cap-l=h-l/\0<sz):=by
   intro A;rcases hf A with rfl| ⟨rfl,rfl,r⟩
   ·exact .inl (by omega)
   ·by_cases hhl:h=cap
    ·exact .inr ⟨by subst hhl;simp,by omega,r⟩
    ·have:1*1<=(cap-h)*sz:=Nat.mul_le_mul (by omega) r;exact .inl (by omega)
  by_cases hcap:cap=l
  ·have m:h-l=0:=by omega
   rw [if_pos hcap];refine .vslice a (fun _=>undef) g (by omega) (.inl (by omega)) ?_ ?_ ?_ ?_ p
   ·intro i j;rw [g,m]at j;omega
   ·intro i j;rw [g,m]at j;omega
   ·intro i j;rw [g,m]at j;omega
   ·intro i j;obtain⟨h1,r,h2,h3⟩:=ht i j;rw [g,m];exact⟨h1,by omega,by omega,fun _=> .inl (by omega)⟩
  ·rw [if_neg hcap];have y:a.spot=none/\∃n,M.bsz a.block=some n/\a.off+cap*sz<=n:=ha.resolve_left (by omega)
   obtain⟨X,V,T⟩:=a;obtain⟨K,n,O,u⟩:=y;simp only at K;subst K;simp only [h4C,dA];have z:l*sz+(cap-l)*sz=cap*sz:=by rw [<-Nat.add_mul];congr 1;omega
   refine .vslice ⟨X,V+l*sz,none⟩ (fun i=>rv (l*sz+i)) g (by omega) (.inr ⟨rfl,n,O,by simp only at u⊢;omega⟩) ?_ ?_ ?_ ?_ p
   ·intro i j;rw [g]at j;have:=him (l*sz+i) (by omega);simpa [h5D]using this
   ·intro i j;rw [g]at j;simp only [h6J,h6I];exact hv _ _
   ·intro i j;simp only [h6J,h6I];exact hc _ _
   ·intro i j;obtain⟨h1,r,h2,h3⟩:=ht i j;refine⟨h1,by rw [g];omega,by omega,fun he=>?_⟩;have G:e=M.tip i:=by omega
    rcases h3 G with h3|h3
    ·have:cap=l:=by omega
     exact absurd this hcap
    ·refine .inr ?_;rw [h3,g];simp only [h2M,true_and];omega
theorem uE{id g len sz l h cap:Nat}{a:Addr}(m:VR M (.hslice id g len sz) (.slice (some a) len cap))(r:l<=h)(u:h<=len):
  VR M (.hslice id (g+l*sz) (h-l) sz) (.slice (if cap=l then some a else(some a).map (·.add (l*sz))) (h-l) (cap-l)):=by
 cases m with
 | @hslice _ _ _ _ _ b _ hl ha hlen=>
  by_cases hcap:cap=l
  ·rw [if_pos hcap];exact .hslice a hl (.inl (by omega)) (by omega)
  ·rw [if_neg hcap];obtain⟨rfl,n,j,p⟩:=ha.resolve_left (by omega);simp only [h4C,dA];have i:l*sz+(cap-l)*sz=cap*sz:=by rw [<-Nat.add_mul];congr 1;omega
   exact .hslice _ hl (.inr ⟨rfl,n,j,by omega⟩) (by omega)
theorem pU{id:Option Nat}{e len sz:Nat}{cs:List IV}{r:Value}(g:VR M (.vslice id e len sz cs) r): ∃a cap,r= .slice a len cap/\len<=cap/\cs.length=len*sz:=by
 cases g with
 |vslice a rv hn hlen=>exact⟨some a,_,rfl,hlen,hn⟩
 |vnil=>exact⟨none,0,rfl,h1D _,by simp⟩
theorem pV{id g len sz:Nat}{r:Value}(i:VR M (.hslice id g len sz) r): ∃a cap,r= .slice (some a) len cap/\len<=cap:=by
 cases i with
 |hslice a hl ha hlen=>exact⟨a,_,rfl,hlen⟩
theorem b9V{t:TypeId}{x v:IV}{a:Value}{V T:Option (Option TV)}{z u:Option Value}(G:VR M x a)(g:BR M V z)(j:BR M T u)(h:pQ P t x V T=some v):
  ∃r,(Instr.sliceAt t a z u none).run P w= .ok r w/\VR M v r:=by
 unfold pQ at h
 cases hu:P.underlying t with
 |none=>simp [hu]at h
 |some d=>
  simp only [hu]at h
  cases d<;>simp only at h<;>first| (simp at h;done)|skip
  case string=>
   split at h
   case h_2=>simp at h
   obtain⟨⟨l,k⟩,h1,h2⟩:=h0W.1 h;subst h2
   cases G with|str s=>
   obtain⟨K,D,m⟩:=jJ (P:=P) (isSlice:=false) w (h1D _) g j h1;simp only [h4Z]at D m;refine⟨.string (s.extract l k),?_,?_⟩
   ·simp only [Instr.sliceAt,h1K,run_underlying hu,h1F,Instr.slice];have O:(Instr.sliceBounds false s.size s.size z u none).run P w= .ok (l,k,s.size) w:=m;simp [O]
   ·have:=VR.str (M:=M) (s.extract l k)
    rwa [show(s.extract l k).data.toList=(s.data.toList.drop l).take (k-l)from by simp [ByteArray.data_extract,h5Y]]at this
  case slice e=>
   cases hz:gB P e with
   |none=>simp [hz]at h
   |some sz=>
    obtain⟨i,A,L⟩:=dK hz;simp only [hz]at h;split at h
    ·obtain⟨⟨l,k⟩,h1,h2⟩:=h0W.1 h;subst h2
     cases G
     obtain⟨K,D,m⟩:=jJ (P:=P) (isSlice:=true) w (h1D _) g j h1;have Z:l=0:=by omega
     have Y:k=0:=by omega
     subst Z;subst Y;exact⟨.slice none 0 0,by simp [Instr.sliceAt,Instr.slice,run_underlying hu,m,cG A],.nilslice⟩
    ·split at h
     case isFalse=>simp at h
     rename_i y;subst y;obtain⟨⟨l,k⟩,h1,h2⟩:=h0W.1 h;subst h2;obtain⟨X,cap,rfl,p⟩:=pV G;obtain⟨K,D,m⟩:=jJ (P:=P) (isSlice:=true) w p g j h1;exact⟨_,by simp only [Instr.sliceAt,Instr.slice,h1K,run_underlying hu,h1F,m,cG A,L,h1R],uE G K D⟩
    ·split at h
     case isFalse=>simp at h
     rename_i y;subst y;obtain⟨⟨l,k⟩,h1,h2⟩:=h0W.1 h;subst h2;obtain⟨X,cap,rfl,p,hn⟩:=pU G;obtain⟨K,D,m⟩:=jJ (P:=P) (isSlice:=true) w p g j h1;exact⟨_,by simp only [Instr.sliceAt,Instr.slice,h1K,run_underlying hu,h1F,m,cG A,L,h1R],a6R G K D⟩
    ·simp at h
def TR(M:Meta)(pb:Nat->Nat):TV->Value->Prop
 | .v x,r=>VR M x r
 | .l s off,r=>r= .pointer (some ⟨pb s,off,none⟩)
 | .u,r=>r=undef
theorem a0J{pb:Nat->Nat}{n:Nat}{x y:TV}{r:Value}(h:mJ n x=some y)(i:TR M pb x r): ∃a,r= .pointer (some a)/\TR M pb y (.pointer (some (a.add n))):=by
 unfold mJ at h;split at h
 ·simp at h;subst h;exact⟨_,i,by simp [TR,dA]⟩
 ·simp at h;subst h
  cases i with|ptr l=>exact⟨_,rfl,by simpa [TR,dA]using VR.ptr l⟩
 ·simp at h;subst h
  cases i with|vref rv g j m=>exact⟨_,rfl,by simpa [TR,dA,h5D]using VR.vref rv g j m⟩
 ·simp at h
end
section
variable {P:Program} {M:Meta} (w:World)
theorem a2I{tv:Option TV}{x:IV}(h:bM tv=some x):tv=some (.v x):=by
 unfold bM at h;split at h
 ·simp at h;subst h;rfl
 ·simp at h
section
variable {pb:Nat->Nat} {ev:Operand->Option TV} {ρ:Operand->Value} (hev: ∀x tv,ev x=some tv->TR M pb tv (ρ x))
include hev
theorem bK{x:Operand}{v:IV}(h:bM (ev x)=some v):VR M v (ρ x):=hev _ _ (a2I h)
theorem mG: ∀{l:List Operand}{xs:List IV},oA (l.map ev)=some xs->cW M xs (l.map ρ)
 | [],xs,h=>by simp [oA]at h;subst h;exact cW.nil M
 |x::l,xs,h=>by
  simp only [h2H]at h⊢;unfold oA at h;split at h
  ·rename_i v vs h1 h2;simp at h;subst h;exact cW.cons (bK hev h1) (mG h2)
  ·simp at h
theorem wH: ∀{l:List (Nat×Operand)}{ps:List (Nat×IV)},iO (l.map fun(i,x)=>(i,ev x))=some ps->PR M ps (l.map fun(i,x)=>(i,ρ x))
 | [],ps,h=>by simp [iO]at h;subst h;trivial
 | (i,x)::l,ps,h=>by
  simp only [h2H]at h⊢;unfold iO at h;split at h
  ·rename_i v vs h1 h2;simp at h;subst h;exact⟨rfl,bK hev h1,wH h2⟩
  ·simp at h
theorem wI(o:Option Operand):BR M (o.map ev) (o.map ρ):=by
 cases o with
 |none=>trivial
 |some x=>
  cases h:ev x with
  |none=>simp [BR,h]
  |some tv=>
   have:=hev _ _ h
   cases tv with
   |v y=>simpa [BR,h,TR]using this
   |l s off=>simp [BR,h]
   |u=>simp [BR,h]
end
theorem b9W(g:List Field)(h:g.all (fun x=>(P.info? x.type).isSome)=true):
  (g.mapM (m:=Sem) fun f=>do pure (f.offset,<-sizeOf f.type)).run P w= .ok (g.map fun x=>(x.offset,P.cellsOf x.type)) w:=by
 induction g with
 |nil=>simp
 |cons f g ih=>
  simp only [h5T,h0Y]at h;obtain⟨i,l⟩:=Option.isSome_iff_exists.1 h.1;have j:=ih h.2;simp only [h8M,h1K,cG l,h1F,h1R,j];simp [Program.cellsOf,l]
theorem cJ{t:TypeId}{i:TypeInfo}{r:Value}(h:P.info? t=some i)(g:i.zero=some r):(zeroValue t).run P w= .ok r w:=by
 simp [zeroValue,typeInfo,h,g]
theorem b3W{t:TypeId}{z:IV}{ps:List (Nat×IV)}{g:Array (Nat×Value)}(Y:cV P t=some z)(O:PR M ps g.toList){cs:List IV}
  (h:(∃l,P.underlying t=some (.struct l)/\l.toList.all (fun x=>(P.info? x.type).isSome)=true/\nJ (a1T P l) (cellsOf z) ps=some cs) \/
   (∃n e sz,P.underlying t=some (.array n e)/\gB P e=some sz/\nJ (fun i=>some (i*sz,sz)) (cellsOf z) ps=some cs)):
  ∃r,(Instr.build t g).run P w= .ok r w/\VR M (.agg cs) r:=by
 obtain⟨i,r,h1,h2,h3,h4⟩:=eG (M:=M) Y;have T:=jI h3 h4;rcases h with⟨l,K,V,L⟩| ⟨n,e,sz,K,X,L⟩
 ·obtain⟨p,u,y⟩:=wE O T L;have Z:(l.mapM (m:=Sem) fun f=>do pure (f.offset,<-sizeOf f.type)).run P w= .ok (l.map fun x=>(x.offset,P.cellsOf x.type)) w:=by
   rw [h7N];simp only [Sem.run_map,b9W w l.toList V,h1F]
   congr 1
   apply h4V;simp
  refine⟨.agg p,?_,by simpa using gW y⟩;have D:(fun i=>(l.map fun x=>(x.offset,P.cellsOf x.type))[i]?)=a1T P l:=by
   funext j;simp [a1T]
  simp only [Instr.build,h1K,cJ w h1 h2,h1F,run_underlying K,Z];have:Instr.fill (fun x=>(l.map fun x=>(x.offset,P.cellsOf x.type))[x]?) r.cells g.toList=some p:=by rw [D];exact u
  rw [this];rfl
 ·obtain⟨p,u,y⟩:=wE O T L;obtain⟨j,A,G⟩:=dK X;refine⟨.agg p,?_,by simpa using gW y⟩;simp only [Instr.build,h1K,cJ w h1 h2,h1F,run_underlying K,cG A,G,u,h1R]
theorem wJ{t:TypeId}{f:Nat}{j:TypeId}{g:Nat}(h:a1S P t f=some (j,g)): ∃i x,P.underlying t=some (.struct i)/\i[f]?=some x/\x.type=j/\x.offset=g:=by
 unfold a1S at h;split at h
 ·rename_i i l;obtain⟨x,h1,h2⟩:=h0W.1 h;simp at h2;exact⟨i,x,l,h1,h2.1,h2.2⟩
 ·simp at h
theorem b3X: ∀{xs:List IV}{rs:List Value}{x v:IV}{r:Value},VR M x r->cW M xs rs->vZ min2 x xs=some v-> ∃s,(rs.foldlM Builtin.min2 r).run P w= .ok s w/\VR M v s
 | [],rs,x,v,r,hx,hs,h=>by
  cases rs with
  |nil=>simp [vZ]at h;subst h;exact⟨r,by simp,hx⟩
  |cons _ _=>simp [cW]at hs
 |y::ys,rs,x,v,r,hx,hs,h=>by
  obtain⟨q,i,rfl,h1,h2⟩:=hs.uncons;unfold vZ at h;split at h
  ·rename_i z g;unfold min2 at g;split at g
   ·simp at g;subst g
    cases hx;cases h1
    obtain⟨s,h3,h4⟩:=b3X (.int _ _) h2 h;exact⟨s,by simp only [List.foldlM_cons,Builtin.min2,h1K,h1R,h1F];exact h3,h4⟩
   ·simp at g
  ·simp at h
theorem b3Y: ∀{xs:List IV}{rs:List Value}{x v:IV}{r:Value},VR M x r->cW M xs rs->vZ max2 x xs=some v-> ∃s,(rs.foldlM Builtin.max2 r).run P w= .ok s w/\VR M v s
 | [],rs,x,v,r,hx,hs,h=>by
  cases rs with
  |nil=>simp [vZ]at h;subst h;exact⟨r,by simp,hx⟩
  |cons _ _=>simp [cW]at hs
 |y::ys,rs,x,v,r,hx,hs,h=>by
  obtain⟨q,i,rfl,h1,h2⟩:=hs.uncons;unfold vZ at h;split at h
  ·rename_i z g;unfold max2 at g;split at g
   ·simp at g;subst g
    cases hx;cases h1
    obtain⟨s,h3,h4⟩:=b3Y (.int _ _) h2 h;exact⟨s,by simp only [List.foldlM_cons,Builtin.max2,h1K,h1R,h1F];exact h3,h4⟩
   ·simp at g
  ·simp at h
theorem cD{P:Program}{s:Sem Value}{r:Value}(w w':World)(h:s.run P w= .ok r w'):((do pure (.value (<-s)):Sem Next).run P w)= .ok (.value r) w':=by
 simp only [h1K,h,h1F,h1R]
theorem b0E{P:Program}{s:Sem Unit}(w w':World)(h:s.run P w= .ok () w'):((do s;pure .skip:Sem Next).run P w)= .ok .skip w':=by
 simp only [h1K,h,h1F,h1R]
theorem oC{t:TypeId}{b:Bool}{P:Program}(h:wA P t=some b): ∃d,P.underlying t=some d/\((∃i,d= .interface i) ↔ b=true):=by
 unfold wA at h;split at h
 ·rename_i i g;simp at h;subst h;exact⟨_,g,by simp⟩
 ·rename_i d j g;simp at h;subst h;exact⟨d,g,by simp;intro i e;subst e;exact j _ rfl⟩
 ·simp at h
end
end Go.Pv
end
end
