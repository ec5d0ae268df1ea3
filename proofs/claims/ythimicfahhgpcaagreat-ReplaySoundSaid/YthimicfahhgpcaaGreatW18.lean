/-
  Texts of this proof, one after the other.
  Conditions: none.
-/
import Derived.Test.YthimicfahhgpcaaGreatW17
set_option linter.unusedVariables false
set_option linter.unusedSimpArgs false
set_option maxRecDepth 100000
set_option maxHeartbeats 4000000
noncomputable section
variable{i j k m n b q:Nat}{x y z u w:Int}{h g:Go.Pv.Heap}{d l:List Go.Pv.IV}{A B C:List Go.M15.Nd}{K L:Y12}{p s t:Go.Pv.IV}{F:List Go.M10.E}{D:Go.Pv.Meta}{V W:List Go.Value}{U:Go.TypeId}{o:Bool}{X Y:Go.Value}{r e:Y11}{O:Go.Oper}{N:Y10}{H:Array Go.Value}
section
namespace Go.Proofs.YthimicfahhgpcaaGreat
open Go.Pv Go.M15 Go.M23
theorem rr0:eJ env 400 90 [.ptr 0 0] (hB 0)=some (.agg (bS r0),hC 0):=by kernel_rfl
theorem rr1:eJ env 400 90 [.ptr 0 0] (hB 1)=some (.agg (bS r1),hC 1):=by kernel_rfl
theorem rr2:eJ env 400 90 [.ptr 0 0] (hB 2)=some (.agg (bS r2),hC 2):=by kernel_rfl
theorem rr3:eJ env 400 90 [.ptr 0 0] (hB 3)=some (.agg (bS r3),hC 3):=by kernel_rfl
theorem rr4:eJ env 400 90 [.ptr 0 0] (hB 4)=some (.agg (bS r4),hC 4):=by kernel_rfl
theorem rr5:eJ env 400 90 [.ptr 0 0] (hB 5)=some (.agg (bS r5),hC 5):=by kernel_rfl
theorem rr6:eJ env 400 90 [.ptr 0 0] (hB 6)=some (.agg (bS r6),hC 6):=by kernel_rfl
theorem rr7:eJ env 400 90 [.ptr 0 0] (hB 7)=some (.agg (bS r7),hC 7):=by kernel_rfl
end Go.Proofs.YthimicfahhgpcaaGreat
end
end
