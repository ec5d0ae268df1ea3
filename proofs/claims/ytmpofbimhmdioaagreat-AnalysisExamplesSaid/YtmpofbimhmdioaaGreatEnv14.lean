/-
  The program of this seat as Pv runs it: which rows and variables lie in Pv's heap.
  Conditions: none.
-/
import Derived.Test.YtmpofbimhmdioaaGreatPvBridge
import Derived.Test.YtmpofbimhmdioaaGreatChecked
import Derived.Eval
import Derived.KernelRfl
import Derived.RowKit
set_option linter.unusedVariables false
namespace Go.Proofs.YtmpofbimhmdioaaGreat
open Go.Pv

/-- a table of sites -/
def tab (l : List (Nat × List Nat)) (f d : Nat) : Nat := match l.find? (fun p => p.1 == f) with
  | some (_, ds) => if ds.contains d then 1 else 0
  | none => 0

/-- the operations at reserved numbers, by function and region -/
def tabN (l : List (Nat × Nat × List Nat)) (f r : Nat) : List Nat := match l.find? (fun p => p.1 == f && p.2.1 == r) with
  | some (_, _, ds) => ds
  | none => []

noncomputable def env : Env where
  P := Tryz.prog
  G := fun _ => none
  A := tab [(5,[73,105]),(45,[171]),(78,[64]),(120,[12])]
  bx := tab [(4,[20]),(5,[37]),(6,[22]),(7,[24]),(22,[5,9,10,11,12])]
  fz := fun f => ([20] : List Nat).contains f
  nf := fun f => true
  iso := fun f => ([4, 5, 6, 7, 8, 20, 25, 29, 30, 54, 56, 57, 59, 60, 61, 62, 63] : List Nat).contains f
  an := tabN [(6, 1, [5, 6]), (22, 2, [10, 11]), (22, 3, [2, 3]), (24, 1, [5, 11])]

theorem envMixed : env.P.follows .mixedOrders = true := Checked.mixed Tryz.checked
theorem envOk : progOk env.P = true := by kernel_rfl
theorem laidOut : laidOutB Tryz.prog = true := by kernel_rfl
theorem own : ownKnob Tryz.prog.godebug = none := by kernel_rfl
theorem envG (W : World) : GOK env (M0 W) := fun g cs e => by cases e
end Go.Proofs.YtmpofbimhmdioaaGreat
