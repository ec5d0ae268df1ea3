/-
  Texts of this proof, one after the other.
  Conditions: none.
-/
import Derived.Test.YthimicfahhgpcaaGreatW18
set_option linter.unusedVariables false
set_option linter.unusedSimpArgs false
set_option maxRecDepth 100000
set_option maxHeartbeats 4000000
noncomputable section
variable{i j k m n b q:Nat}{x y z u w:Int}{h g:Go.Pv.Heap}{d l:List Go.Pv.IV}{A B C:List Go.M15.Nd}{K L:Y12}{p s t:Go.Pv.IV}{F:List Go.M10.E}{D:Go.Pv.Meta}{V W:List Go.Value}{U:Go.TypeId}{o:Bool}{X Y:Go.Value}{r e:Y11}{O:Go.Oper}{N:Y10}{H:Array Go.Value}
section
namespace Go.Proofs.YthimicfahhgpcaaGreat
open Go.Pv Go.M15 Go.M23
theorem rr8:eJ env 400 90 [.ptr 0 0] (hB 8)=some (.agg (bS r8),hC 8):=by kernel_rfl
theorem rr9:eJ env 400 90 [.ptr 0 0] (hB 9)=some (.agg (bS r9),hC 9):=by kernel_rfl
theorem e2S:eJ env 400 90 [.ptr 0 0] (hB 10)=some (.agg (bS Ng),hC 10):=by kernel_rfl
theorem e2T:eJ env 400 90 [.ptr 0 0] (hB 11)=some (.agg (bS J0),hC 11):=by kernel_rfl
theorem e2U:eJ env 400 90 [.ptr 0 0] (hB 12)=some (.agg (bS G9),hC 12):=by kernel_rfl
theorem e2V:eJ env 400 90 [.ptr 0 0] (hB 13)=some (.agg (bS W9),hC 13):=by kernel_rfl
theorem e2W:eJ env 400 90 [.ptr 0 0] (hB 14)=some (.agg (bS Gp),hC 14):=by kernel_rfl
theorem e2X:eJ env 400 90 [.ptr 0 0] (hB 15)=some (.agg (bS r15),hC 15):=by kernel_rfl
end Go.Proofs.YthimicfahhgpcaaGreat
end
end
