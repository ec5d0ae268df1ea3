/-
  Texts of this proof, one after the other.
  Conditions: none.
-/
import Derived.Test.YthimicfahhgpcaaGreatW8
set_option linter.unusedVariables false
set_option linter.unusedSimpArgs false
set_option maxRecDepth 100000
set_option maxHeartbeats 4000000
noncomputable section
variable{i j k m n b q:Nat}{x y z u w:Int}{h g:Go.Pv.Heap}{d l:List Go.Pv.IV}{A B C:List Go.M15.Nd}{K L:Y12}{p s t:Go.Pv.IV}{F:List Go.M10.E}{D:Go.Pv.Meta}{V W:List Go.Value}{U:Go.TypeId}{o:Bool}{X Y:Go.Value}{r e:Y11}{O:Go.Oper}{N:Y10}{H:Array Go.Value}
section
namespace Go.M23
open Go.Pv
def rls:IV:= .vslice none 0 2 14 [.str [116,117,114,110],.int .i64 0,.int .i64 4,.int .i64 0,.int .i64 0,.vslice none 0 2 5 [.int .i64 1,.int .i64 0,.int .i64 0,.int .i64 0,.vslice none 0 0 5 [],.int .i64 2,.int .i64 0,.int .i64 0,.int .i64 0,.vslice none 0 0 5 []],.int .i64 0,.int .i64 4,.int .i64 0,.int .i64 0,.vslice none 0 2 5 [.int .i64 2,.int .i64 0,.int .i64 0,.int .i64 0,.vslice none 0 0 5 [],.int .i64 1,.int .i64 0,.int .i64 0,.int .i64 0,.vslice none 0 0 5 []],.vslice none 0 0 4 [],.int .i64 2,.int .i64 0,.str [111,110,101],.int .i64 0,.int .i64 16,.int .i64 0,.int .i64 0,.vslice none 0 2 5 [.int .i64 1,.int .i64 0,.int .i64 0,.int .i64 0,.vslice none 0 0 5 [],.int .i64 0,.int .i64 1,.int .i64 0,.int .i64 0,.vslice none 0 0 5 []],.int .i64 0,.int .i64 1,.int .i64 1,.int .i64 0,.vslice none 0 0 5 [],.vslice none 0 1 4 [.int .i64 1,.int .i64 1,.int .i64 0,.int .i64 0],.int .i64 1,.int .i64 0]
def nrl:IV:= .vslice none 0 0 14 []
def xY:IV:= .vslice none 0 0 3 []
def xZ:IV:= .vslice none 0 0 1 []
def nds:IV:= .vslice none 0 8 3 [.int .i64 2,.int .i64 0,.vslice none 0 0 1 [],.int .i64 1,.int .i64 5,.vslice none 0 0 1 [],.int .i64 4,.int .i64 0,.vslice none 0 2 1 [.int .i64 0,.int .i64 1],.int .i64 4,.int .i64 0,.vslice none 0 2 1 [.int .i64 1,.int .i64 0],.int .i64 1,.int .i64 0,.vslice none 0 0 1 [],.int .i64 16,.int .i64 0,.vslice none 0 2 1 [.int .i64 1,.int .i64 4],.int .i64 1,.int .i64 1,.vslice none 0 0 1 [],.int .i64 16,.int .i64 0,.vslice none 0 2 1 [.int .i64 0,.int .i64 4]]
def stA:IV:= .agg [.int .i64 2,.int .i64 3,.int .i64 1,.vslice none 0 2 1 [.int .i64 0,.int .i64 1],.vslice none 0 0 1 []]
def stB:IV:= .agg [.int .i64 5,.int .i64 6,.int .i64 2,.vslice none 0 1 1 [.int .i64 1],.vslice none 0 0 1 []]
def stC:IV:= .agg [.int .i64 5,.int .i64 6,.int .i64 (-1),.vslice none 0 0 1 [],.vslice none 0 0 1 []]
def stD:IV:= .agg [.int .i64 7,.int .i64 6,.int .i64 2,.vslice none 0 1 1 [.int .i64 0],.vslice none 0 0 1 []]
def prf:IV:= .agg [nds,.vslice none 0 1 5 [.int .i64 2,.int .i64 3,.int .i64 1,.vslice none 0 2 1 [.int .i64 0,.int .i64 1],.vslice none 0 0 1 []],.int .i64 3,.int .i64 2]
inductive XSt:IV->IV->IV->IV->IV->Bool->Prop
 |a:XSt rls xY xZ nds stA true
 |b:XSt rls xY xZ nds stB true
 |c:XSt nrl xY xZ nds stC true
 |d:XSt rls xY xZ nds stD false
 |e:XSt nrl xY xZ nds stA false
inductive XPr:IV->IV->IV->IV->Bool->Prop
 |p:XPr rls xY xZ prf true
 |n:XPr nrl xY xZ prf false
end Go.M23
end
end
