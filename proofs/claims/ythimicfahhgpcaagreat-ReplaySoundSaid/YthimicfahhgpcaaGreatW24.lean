/-
  Texts of this proof, one after the other.
  Conditions: none.
-/
import Derived.Test.YthimicfahhgpcaaGreatW23
set_option linter.unusedVariables false
set_option linter.unusedSimpArgs false
set_option maxRecDepth 100000
set_option maxHeartbeats 4000000
noncomputable section
variable{i j k m n b q:Nat}{x y z u w:Int}{h g:Go.Pv.Heap}{d l:List Go.Pv.IV}{A B C:List Go.M15.Nd}{K L:Y12}{p s t:Go.Pv.IV}{F:List Go.M10.E}{D:Go.Pv.Meta}{V W:List Go.Value}{U:Go.TypeId}{o:Bool}{X Y:Go.Value}{r e:Y11}{O:Go.Oper}{N:Y10}{H:Array Go.Value}
section
namespace Go.Proofs.YthimicfahhgpcaaGreat
open Go.Pv Go.M23
theorem e2A(Q:IV->Heap->Prop)(h:Heap)(g:Q (.bool false) h):aL env 32 [rls,xY,xZ,nds,stD] h Q:=⟨400,.bool false,h,by kernel_rfl,g⟩
theorem e2B(Q:IV->Heap->Prop)(h:Heap)(g:Q (.bool false) h):aL env 32 [nrl,xY,xZ,nds,stA] h Q:=⟨400,.bool false,h,by kernel_rfl,g⟩
end Go.Proofs.YthimicfahhgpcaaGreat
end
end
