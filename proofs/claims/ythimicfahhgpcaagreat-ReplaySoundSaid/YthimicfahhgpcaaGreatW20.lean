/-
  Texts of this proof, one after the other.
  Conditions: none.
-/
import Derived.Test.YthimicfahhgpcaaGreatW19
set_option linter.unusedVariables false
set_option linter.unusedSimpArgs false
set_option maxRecDepth 100000
set_option maxHeartbeats 4000000
noncomputable section
variable{i j k m n b q:Nat}{x y z u w:Int}{h g:Go.Pv.Heap}{d l:List Go.Pv.IV}{A B C:List Go.M15.Nd}{K L:Y12}{p s t:Go.Pv.IV}{F:List Go.M10.E}{D:Go.Pv.Meta}{V W:List Go.Value}{U:Go.TypeId}{o:Bool}{X Y:Go.Value}{r e:Y11}{O:Go.Oper}{N:Y10}{H:Array Go.Value}
section
namespace Go.Proofs.YthimicfahhgpcaaGreat
open Go.Pv Go.M15 Go.M23
theorem e1G{h:Heap}{Q:IV->Heap->Prop}(g:Q (.tuple [.agg (bS Rs),.bool true]) h):aL env 89 [.str Rs.nm] h Q:=⟨400,_,h,by kernel_rfl,g⟩
theorem e1H{h:Heap}{Q:IV->Heap->Prop}(g:Q (.tuple [.agg (bS zL),.bool true]) h):aL env 89 [.str zL.nm] h Q:=⟨400,_,h,by kernel_rfl,g⟩
theorem e1I{h:Heap}{Q:IV->Heap->Prop}(g:Q (.tuple [.agg (bS Gq),.bool true]) h):aL env 89 [.str Gq.nm] h Q:=⟨400,_,h,by kernel_rfl,g⟩
theorem e1J{h:Heap}{Q:IV->Heap->Prop}(g:Q (.tuple [.agg (bS Nh),.bool true]) h):aL env 89 [.str Nh.nm] h Q:=⟨400,_,h,by kernel_rfl,g⟩
theorem e1K{h:Heap}{Q:IV->Heap->Prop}(g:Q (.tuple [.agg (bS r20),.bool true]) h):aL env 89 [.str r20.nm] h Q:=⟨400,_,h,by kernel_rfl,g⟩
theorem e1L{h:Heap}{Q:IV->Heap->Prop}(g:Q (.tuple [.agg (bS gT),.bool true]) h):aL env 89 [.str gT.nm] h Q:=⟨400,_,h,by kernel_rfl,g⟩
theorem e1M{h:Heap}{Q:IV->Heap->Prop}(g:Q (.tuple [.agg (bS r22),.bool true]) h):aL env 89 [.str r22.nm] h Q:=⟨400,_,h,by kernel_rfl,g⟩
theorem e1N{h:Heap}{Q:IV->Heap->Prop}(g:Q (.tuple [.agg (bS r23),.bool true]) h):aL env 89 [.str r23.nm] h Q:=⟨400,_,h,by kernel_rfl,g⟩
theorem e1O{h:Heap}{Q:IV->Heap->Prop}(g:Q (.tuple [.agg (bS r24),.bool true]) h):aL env 89 [.str r24.nm] h Q:=⟨400,_,h,by kernel_rfl,g⟩
theorem e1P{h:Heap}{Q:IV->Heap->Prop}(g:Q (.tuple [.agg (bS r25),.bool true]) h):aL env 89 [.str r25.nm] h Q:=⟨400,_,h,by kernel_rfl,g⟩
theorem e1Q{h:Heap}{Q:IV->Heap->Prop}(g:Q (.tuple [.agg (bS r26),.bool true]) h):aL env 89 [.str r26.nm] h Q:=⟨400,_,h,by kernel_rfl,g⟩
theorem e1R{h:Heap}{Q:IV->Heap->Prop}(g:Q (.tuple [.agg (bS r27),.bool true]) h):aL env 89 [.str r27.nm] h Q:=⟨400,_,h,by kernel_rfl,g⟩
theorem vr0{h:Heap}{Q:IV->Heap->Prop}(g:Q (.bool true) h):aL env 91 [.agg (bS r0)] h Q:=⟨300,_,h,by kernel_rfl,g⟩
theorem vr1{h:Heap}{Q:IV->Heap->Prop}(g:Q (.bool true) h):aL env 91 [.agg (bS r1)] h Q:=⟨300,_,h,by kernel_rfl,g⟩
theorem vr2{h:Heap}{Q:IV->Heap->Prop}(g:Q (.bool true) h):aL env 91 [.agg (bS r2)] h Q:=⟨300,_,h,by kernel_rfl,g⟩
theorem vr3{h:Heap}{Q:IV->Heap->Prop}(g:Q (.bool true) h):aL env 91 [.agg (bS r3)] h Q:=⟨300,_,h,by kernel_rfl,g⟩
theorem vr4{h:Heap}{Q:IV->Heap->Prop}(g:Q (.bool true) h):aL env 91 [.agg (bS r4)] h Q:=⟨300,_,h,by kernel_rfl,g⟩
theorem vr5{h:Heap}{Q:IV->Heap->Prop}(g:Q (.bool true) h):aL env 91 [.agg (bS r5)] h Q:=⟨300,_,h,by kernel_rfl,g⟩
theorem vr6{h:Heap}{Q:IV->Heap->Prop}(g:Q (.bool true) h):aL env 91 [.agg (bS r6)] h Q:=⟨300,_,h,by kernel_rfl,g⟩
theorem vr7{h:Heap}{Q:IV->Heap->Prop}(g:Q (.bool true) h):aL env 91 [.agg (bS r7)] h Q:=⟨300,_,h,by kernel_rfl,g⟩
theorem vr8{h:Heap}{Q:IV->Heap->Prop}(g:Q (.bool true) h):aL env 91 [.agg (bS r8)] h Q:=⟨300,_,h,by kernel_rfl,g⟩
theorem vr9{h:Heap}{Q:IV->Heap->Prop}(g:Q (.bool true) h):aL env 91 [.agg (bS r9)] h Q:=⟨300,_,h,by kernel_rfl,g⟩
theorem e4Z{h:Heap}{Q:IV->Heap->Prop}(g:Q (.bool true) h):aL env 91 [.agg (bS Ng)] h Q:=⟨300,_,h,by kernel_rfl,g⟩
theorem e5A{h:Heap}{Q:IV->Heap->Prop}(g:Q (.bool true) h):aL env 91 [.agg (bS J0)] h Q:=⟨300,_,h,by kernel_rfl,g⟩
theorem e5B{h:Heap}{Q:IV->Heap->Prop}(g:Q (.bool true) h):aL env 91 [.agg (bS G9)] h Q:=⟨300,_,h,by kernel_rfl,g⟩
theorem e5C{h:Heap}{Q:IV->Heap->Prop}(g:Q (.bool true) h):aL env 91 [.agg (bS W9)] h Q:=⟨300,_,h,by kernel_rfl,g⟩
theorem e5D{h:Heap}{Q:IV->Heap->Prop}(g:Q (.bool true) h):aL env 91 [.agg (bS Gp)] h Q:=⟨300,_,h,by kernel_rfl,g⟩
theorem e5E{h:Heap}{Q:IV->Heap->Prop}(g:Q (.bool true) h):aL env 91 [.agg (bS r15)] h Q:=⟨300,_,h,by kernel_rfl,g⟩
end Go.Proofs.YthimicfahhgpcaaGreat
end
end
