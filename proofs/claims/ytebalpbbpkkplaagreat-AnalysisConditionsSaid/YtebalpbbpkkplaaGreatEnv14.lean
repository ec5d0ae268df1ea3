/-
  The program of this seat as Pv runs it: which rows and variables lie in Pv's heap.
  Conditions: none.
-/
import Derived.Test.YtebalpbbpkkplaaGreatPvBridge
import Derived.Test.YtebalpbbpkkplaaGreatChecked
import Derived.Eval
import Derived.KernelRfl
import Derived.RowKit
set_option linter.unusedVariables false
namespace Go.Proofs.YtebalpbbpkkplaaGreat
open Go.Pv

/-- a table of sites -/
def tab (l : List (Nat × List Nat)) (f d : Nat) : Nat := match l.find? (fun p => p.1 == f) with
  | some (_, ds) => if ds.contains d then 1 else 0
  | none => 0

/-- the operations at reserved numbers, by function and region -/
def tabN (l : List (Nat × Nat × List Nat)) (f r : Nat) : List Nat := match l.find? (fun p => p.1 == f && p.2.1 == r) with
  | some (_, _, ds) => ds
  | none => []

noncomputable def env : Env where
  P := Tryz.prog
  G := fun _ => none
  A := tab [(14,[73,105]),(51,[171]),(84,[64]),(126,[12])]
  bx := tab [(13,[20]),(14,[37]),(15,[22]),(16,[24]),(32,[5,9,10,11,12])]
  fz := fun f => ([30] : List Nat).contains f
  nf := fun f => true
  iso := fun f => ([13, 14, 15, 16, 5, 30, 17, 9, 10, 60, 62, 63, 65, 66, 67, 68, 69] : List Nat).contains f
  an := tabN [(15, 1, [5, 6]), (32, 2, [10, 11]), (32, 3, [2, 3]), (34, 1, [5, 11])]

theorem envMixed : env.P.follows .mixedOrders = true := Checked.mixed Tryz.checked
theorem envOk : progOk env.P = true := by kernel_rfl
theorem laidOut : laidOutB Tryz.prog = true := by kernel_rfl
theorem own : ownKnob Tryz.prog.godebug = none := by kernel_rfl
theorem envG (W : World) : GOK env (M0 W) := fun g cs e => by cases e
end Go.Proofs.YtebalpbbpkkplaaGreat
