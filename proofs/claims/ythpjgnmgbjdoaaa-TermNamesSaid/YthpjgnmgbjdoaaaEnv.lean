/-
  The program of this seat as Pv runs it: which rows and variables lie in Pv's heap.
  Conditions: none.
-/
import Derived.Test.YthpjgnmgbjdoaaaPvBridge
import Derived.Test.YthpjgnmgbjdoaaaChecked
import Derived.Eval
import Derived.KernelRfl
import Derived.RowKit
set_option linter.unusedVariables false
namespace Go.Proofs.Ythpjgnmgbjdoaaa
open Go.Pv

/-- a table of sites -/
def tab (l : List (Nat × List Nat)) (f d : Nat) : Nat := match l.find? (fun p => p.1 == f) with
  | some (_, ds) => if ds.contains d then 1 else 0
  | none => 0

noncomputable def env : Env where
  P := Try.prog
  G := fun _ => none
  A := tab []
  bx := tab [(9, [13]), (11, [12]), (31, [3])]
  fz := fun f => ([] : List Nat).contains f
  nf := fun f => (f == 4 || f == 5 || f == 6 || f == 8 || f == 7)
  iso := fun f => (f == 4 || f == 5 || f == 6 || f == 8 || f == 7)

theorem envMixed : env.P.follows .mixedOrders = true := Checked.mixed Try.checked
theorem envOk : progOk env.P = true := by kernel_rfl
theorem laidOut : laidOutB Try.prog = true := by kernel_rfl
theorem own : ownKnob Try.prog.godebug = none := by kernel_rfl
theorem envG (W : World) : GOK env (M0 W) := fun g cs e => by cases e
end Go.Proofs.Ythpjgnmgbjdoaaa
