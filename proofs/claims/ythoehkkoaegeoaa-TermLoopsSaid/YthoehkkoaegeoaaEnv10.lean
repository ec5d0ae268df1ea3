/-
  The program of this seat as Pv runs it: which rows and variables lie in Pv's heap.
  Conditions: none.
-/
import Derived.Test.YthoehkkoaegeoaaPvBridge
import Derived.Test.YthoehkkoaegeoaaPvVS
import Derived.Test.YthoehkkoaegeoaaChecked
import Derived.Eval
import Derived.KernelRfl
import Derived.RowKit
set_option linter.unusedVariables false
namespace Go.Proofs.Ythoehkkoaegeoaa
open Go.Pv

/-- a table of sites -/
def tab (l : List (Nat × List Nat)) (f d : Nat) : Nat := match l.find? (fun p => p.1 == f) with
  | some (_, ds) => if ds.contains d then 1 else 0
  | none => 0

noncomputable def env : Env where
  P := Try.prog
  G := fun _ => none
  A := tab [(55, [12])]
  bx := tab [(6, [43]), (7, [12]), (10, [13]), (40, [3])]
  fz := fun f => ([55] : List Nat).contains f
  nf := fun f => true
  iso := fun f => !([18, 21, 25, 28, 29, 33, 34, 36, 39, 44] : List Nat).contains f
  ld := fun f d => ([(6, [139, 143, 100])] : List (Nat × List Nat)).any fun p => p.1 == f && p.2.contains d
  ln := fun f d => if ([(29, [7, 25]), (7, [23]), (36, [50, 63]), (10, [38, 47, 54])] : List (Nat × List Nat)).any (fun p => p.1 == f && p.2.contains d) then 1 else if ([(36, [39, 55])] : List (Nat × List Nat)).any (fun p => p.1 == f && p.2.contains d) then 3 else if ([(6, [110, 145]), (25, [87]), (5, [39, 44, 57])] : List (Nat × List Nat)).any (fun p => p.1 == f && p.2.contains d) then 9 else 0

theorem envMixed : env.P.follows .mixedOrders = true := Checked.mixed Try.checked
theorem envOk : progOk env.P = true := by kernel_rfl
theorem laidOut : laidOutB Try.prog = true := by kernel_rfl
theorem own : ownKnob Try.prog.godebug = none := by kernel_rfl
theorem envG (W : World) : GOK env (M0 W) := fun g cs e => by cases e
end Go.Proofs.Ythoehkkoaegeoaa
