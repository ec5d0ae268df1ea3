import Derived.Test.YtgfllfgdojiioaaGreatPvBridge
import Derived.Test.YtgfllfgdojiioaaGreatPvVS
import Derived.Test.YtgfllfgdojiioaaGreatChecked
import Derived.Eval
import Derived.KernelRfl
import Derived.RowKit
set_option linter.unusedVariables false
namespace Go.Proofs.YtgfllfgdojiioaaGreat
open Go.Pv
def tab (l : List (Nat × List Nat)) (f d : Nat) : Nat := match l.find? (fun p => p.1 == f) with
 | some (_, ds) => if ds.contains d then 1 else 0
 | none => 0
def tabN (l : List (Nat × Nat × List Nat)) (f r : Nat) : List Nat := match l.find? (fun p => p.1 == f && p.2.1 == r) with
 | some (_, _, ds) => ds
 | none => []
noncomputable def env : Env where
 P := Tryz.prog
 G := fun _ => none
 A := tab [(24,[73,105]),(91,[171]),(124,[64]),(144,[12])]
 bx := tab [(4,[43]),(5,[12]),(23,[20]),(24,[37]),(25,[22]),(26,[24]),(54,[5,9,10,11,12])]
 fz := fun f => ([16, 5, 144] : List Nat).contains f
 nf := fun f => true
 iso := fun f => ([3, 4, 5, 6, 7, 8, 9, 10, 11, 12, 13, 15, 16, 19, 20, 23, 24, 25, 26, 27, 28, 29, 30, 33, 36, 37, 38, 39, 60, 63, 101, 102, 103, 125, 134, 135, 141, 142, 143, 144, 145] : List Nat).contains f
 an := tabN [(18, 1, [5, 11]), (25, 1, [5, 6]), (54, 2, [10, 11]), (54, 3, [2, 3])]
 ld := fun f d => ([(4, [139, 143, 100])] : List (Nat × List Nat)).any fun p => p.1 == f && p.2.contains d
 ln := fun f d => if ([(4, [110, 145])] : List (Nat × List Nat)).any (fun p => p.1 == f && p.2.contains d) then 9 else 0
theorem envMixed : env.P.follows .mixedOrders = true := Checked.mixed Tryz.checked
theorem envOk : progOk env.P = true := by kernel_rfl
theorem laidOut : laidOutB Tryz.prog = true := by kernel_rfl
theorem own : ownKnob Tryz.prog.godebug = none := by kernel_rfl
theorem envG (W : World) : GOK env (M0 W) := fun g cs e => by cases e
end Go.Proofs.YtgfllfgdojiioaaGreat
