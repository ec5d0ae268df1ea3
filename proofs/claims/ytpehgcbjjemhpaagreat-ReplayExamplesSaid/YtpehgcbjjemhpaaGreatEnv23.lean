/-
  The program of this seat as Pv runs it: which rows and variables lie in Pv's heap.
  Conditions: none.
-/
import Derived.Test.YtpehgcbjjemhpaaGreatPvBridge
import Derived.Test.YtpehgcbjjemhpaaGreatChecked
import Derived.Eval
import Derived.KernelRfl
import Derived.RowKit
set_option linter.unusedVariables false
namespace Go.Proofs.YtpehgcbjjemhpaaGreat
open Go.Pv

/-- a table of sites -/
def tab (l : List (Nat × List Nat)) (f d : Nat) : Nat := match l.find? (fun p => p.1 == f) with
  | some (_, ds) => if ds.contains d then 1 else 0
  | none => 0

/-- the operations at reserved numbers, by function and region -/
def tabN (l : List (Nat × Nat × List Nat)) (f r : Nat) : List Nat := match l.find? (fun p => p.1 == f && p.2.1 == r) with
  | some (_, _, ds) => ds
  | none => []

noncomputable def env : Env where
  P := Tryz.prog
  G := fun _ => none
  A := tab [(111,[64])]
  bx := tab [(7, [18]), (12, [12]), (17, [28]), (26, [20]), (35, [41]), (56, [4, 5]), (15, [3]), (14, [3])]
  fz := fun f => ([20] : List Nat).contains f
  nf := fun f => true
  iso := fun f => ([4, 5, 6, 9, 11, 18, 20, 25, 42, 43, 46, 47, 48, 49, 61, 62, 27, 60] : List Nat).contains f
  ld := fun f d => (f == 3 && ([28, 33, 38, 43, 49, 55, 61, 65] : List Nat).contains d) || (f == 10 && d == 23)
  an := tabN [(22, 1, [5, 11]), (25, 3, [3, 7])]

theorem envMixed : env.P.follows .mixedOrders = true := Checked.mixed Tryz.checked
theorem envOk : progOk env.P = true := by kernel_rfl
theorem laidOut : laidOutB Tryz.prog = true := by kernel_rfl
theorem own : ownKnob Tryz.prog.godebug = none := by kernel_rfl
theorem envG (W : World) : GOK env (M0 W) := fun g cs e => by cases e
end Go.Proofs.YtpehgcbjjemhpaaGreat
