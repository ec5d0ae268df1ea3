/-
  Texts of this proof, one after the other.
  Conditions: none.
-/
import Derived.Test.YthimicfahhgpcaaGreatW15
set_option linter.unusedVariables false
set_option linter.unusedSimpArgs false
set_option maxRecDepth 100000
set_option maxHeartbeats 4000000
noncomputable section
variable{i j k m n b q:Nat}{x y z u w:Int}{h g:Go.Pv.Heap}{d l:List Go.Pv.IV}{A B C:List Go.M15.Nd}{K L:Y12}{p s t:Go.Pv.IV}{F:List Go.M10.E}{D:Go.Pv.Meta}{V W:List Go.Value}{U:Go.TypeId}{o:Bool}{X Y:Go.Value}{r e:Y11}{O:Go.Oper}{N:Y10}{H:Array Go.Value}
section
namespace Go.Proofs.YthimicfahhgpcaaGreat
open Go.Pv Go.M15 Go.M23
theorem vv0{h:Heap}{Q:KT}(g:Q (.bool true) h):aL env 140 [.agg (bS r0)] h Q:=⟨200,_,h,by kernel_rfl,g⟩
theorem vv1{h:Heap}{Q:KT}(g:Q (.bool true) h):aL env 140 [.agg (bS r1)] h Q:=⟨200,_,h,by kernel_rfl,g⟩
theorem vv2{h:Heap}{Q:KT}(g:Q (.bool true) h):aL env 140 [.agg (bS r2)] h Q:=⟨200,_,h,by kernel_rfl,g⟩
theorem vv3{h:Heap}{Q:KT}(g:Q (.bool true) h):aL env 140 [.agg (bS r3)] h Q:=⟨200,_,h,by kernel_rfl,g⟩
theorem vv4{h:Heap}{Q:KT}(g:Q (.bool true) h):aL env 140 [.agg (bS r4)] h Q:=⟨200,_,h,by kernel_rfl,g⟩
theorem vv5{h:Heap}{Q:KT}(g:Q (.bool true) h):aL env 140 [.agg (bS r5)] h Q:=⟨200,_,h,by kernel_rfl,g⟩
theorem vv6{h:Heap}{Q:KT}(g:Q (.bool true) h):aL env 140 [.agg (bS r6)] h Q:=⟨200,_,h,by kernel_rfl,g⟩
theorem vv7{h:Heap}{Q:KT}(g:Q (.bool true) h):aL env 140 [.agg (bS r7)] h Q:=⟨200,_,h,by kernel_rfl,g⟩
theorem vv8{h:Heap}{Q:KT}(g:Q (.bool true) h):aL env 140 [.agg (bS r8)] h Q:=⟨200,_,h,by kernel_rfl,g⟩
theorem vv9{h:Heap}{Q:KT}(g:Q (.bool true) h):aL env 140 [.agg (bS r9)] h Q:=⟨200,_,h,by kernel_rfl,g⟩
theorem e5F{h:Heap}{Q:KT}(g:Q (.bool true) h):aL env 140 [.agg (bS Ng)] h Q:=⟨200,_,h,by kernel_rfl,g⟩
theorem e5G{h:Heap}{Q:KT}(g:Q (.bool true) h):aL env 140 [.agg (bS J0)] h Q:=⟨200,_,h,by kernel_rfl,g⟩
theorem e5H{h:Heap}{Q:KT}(g:Q (.bool true) h):aL env 140 [.agg (bS G9)] h Q:=⟨200,_,h,by kernel_rfl,g⟩
theorem e5I{h:Heap}{Q:KT}(g:Q (.bool true) h):aL env 140 [.agg (bS W9)] h Q:=⟨200,_,h,by kernel_rfl,g⟩
theorem e5J{h:Heap}{Q:KT}(g:Q (.bool true) h):aL env 140 [.agg (bS Gp)] h Q:=⟨200,_,h,by kernel_rfl,g⟩
theorem e5K{h:Heap}{Q:KT}(g:Q (.bool true) h):aL env 140 [.agg (bS r15)] h Q:=⟨200,_,h,by kernel_rfl,g⟩
theorem e5L{h:Heap}{Q:KT}(g:Q (.bool true) h):aL env 140 [.agg (bS Rs)] h Q:=⟨200,_,h,by kernel_rfl,g⟩
theorem e5M{h:Heap}{Q:KT}(g:Q (.bool true) h):aL env 140 [.agg (bS zL)] h Q:=⟨200,_,h,by kernel_rfl,g⟩
theorem e5N{h:Heap}{Q:KT}(g:Q (.bool true) h):aL env 140 [.agg (bS Gq)] h Q:=⟨200,_,h,by kernel_rfl,g⟩
theorem e5O{h:Heap}{Q:KT}(g:Q (.bool true) h):aL env 140 [.agg (bS Nh)] h Q:=⟨200,_,h,by kernel_rfl,g⟩
theorem e5P{h:Heap}{Q:KT}(g:Q (.bool true) h):aL env 140 [.agg (bS r20)] h Q:=⟨200,_,h,by kernel_rfl,g⟩
theorem e5Q{h:Heap}{Q:KT}(g:Q (.bool true) h):aL env 140 [.agg (bS gT)] h Q:=⟨200,_,h,by kernel_rfl,g⟩
theorem e5R{h:Heap}{Q:KT}(g:Q (.bool true) h):aL env 140 [.agg (bS r22)] h Q:=⟨200,_,h,by kernel_rfl,g⟩
theorem e5S{h:Heap}{Q:KT}(g:Q (.bool true) h):aL env 140 [.agg (bS r23)] h Q:=⟨200,_,h,by kernel_rfl,g⟩
theorem e5T{h:Heap}{Q:KT}(g:Q (.bool true) h):aL env 140 [.agg (bS r24)] h Q:=⟨200,_,h,by kernel_rfl,g⟩
theorem e5U{h:Heap}{Q:KT}(g:Q (.bool true) h):aL env 140 [.agg (bS r25)] h Q:=⟨200,_,h,by kernel_rfl,g⟩
theorem e5V{h:Heap}{Q:KT}(g:Q (.bool true) h):aL env 140 [.agg (bS r26)] h Q:=⟨200,_,h,by kernel_rfl,g⟩
theorem e5W{h:Heap}{Q:KT}(g:Q (.bool true) h):aL env 140 [.agg (bS r27)] h Q:=⟨200,_,h,by kernel_rfl,g⟩
def Qx(xs:Y14)(h:Heap)(K:KT):Prop:=match xs with
 | [x]=> ∃r:Ru,x= .agg (bS r)/\r∈cC/\K (.bool true) h
 |_=>False
theorem d1N: ∀xs h Q,Qx xs h Q->aL env 140 xs h Q:=by
 intro xs h Q g;unfold Qx at g;split at g
 ·rename_i x;obtain⟨r,rfl,j,g⟩:=g;simp only [cC,CD,DU,or_false]at j;rcases j with rfl|rfl|rfl|rfl|rfl|rfl|rfl|rfl|rfl|rfl|rfl|rfl|rfl|rfl|rfl|rfl|rfl|rfl|rfl|rfl|rfl|rfl|rfl|rfl|rfl|rfl|rfl|rfl
  ·exact vv0 g
  ·exact vv1 g
  ·exact vv2 g
  ·exact vv3 g
  ·exact vv4 g
  ·exact vv5 g
  ·exact vv6 g
  ·exact vv7 g
  ·exact vv8 g
  ·exact vv9 g
  ·exact e5F g
  ·exact e5G g
  ·exact e5H g
  ·exact e5I g
  ·exact e5J g
  ·exact e5K g
  ·exact e5L g
  ·exact e5M g
  ·exact e5N g
  ·exact e5O g
  ·exact e5P g
  ·exact e5Q g
  ·exact e5R g
  ·exact e5S g
  ·exact e5T g
  ·exact e5U g
  ·exact e5V g
  ·exact e5W g
 ·exact g.elim
end Go.Proofs.YthimicfahhgpcaaGreat
end
end
