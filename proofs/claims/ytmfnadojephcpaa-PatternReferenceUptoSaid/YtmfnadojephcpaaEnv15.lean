import Derived.Test.YtmfnadojephcpaaPvBridge
import Derived.Test.YtmfnadojephcpaaPvVS
import Derived.Test.YtmfnadojephcpaaChecked
import Derived.Eval
import Derived.KernelRfl
import Derived.RowKit
set_option linter.unusedVariables false
namespace Go.Proofs.Ytmfnadojephcpaa
open Go.Pv
def tab (l : List (Nat × List Nat)) (f d : Nat) : Nat := match l.find? (fun p => p.1 == f) with
 | some (_, ds) => if ds.contains d then 1 else 0
 | none => 0
noncomputable def env : Env where
 P := Try.prog
 G := fun _ => none
 A := tab [(27, [27]), (36, [25]), (16, [63]), (7, [54, 75, 172]), (8, [61])]
 bx := tab [(9, [9]), (12, [13]), (15, [43]), (18, [9]), (22, [20])]
 fz := fun f => ([9, 18, 16] : List Nat).contains f
 nf := fun f => true
 iso := fun f => !([27, 28, 29, 30, 31, 36, 39, 40, 49, 50, 51] : List Nat).contains f
 ld := fun f d => ([(30, [87, 120, 10]), (12, [2]), (22, [37, 47, 58]), (39, [46, 55]), (50, [8, 37]), (15, [139, 143, 100]), (16, [79, 6])] : List (Nat × List Nat)).any fun p => p.1 == f && p.2.contains d
 ln := fun f d => if ([(27, [45, 80]), (36, [42, 86]), (9, [16]), (18, [16]), (22, [36]), (50, [36])] : List (Nat × List Nat)).any (fun p => p.1 == f && p.2.contains d) then 1 else if ([(27, [16, 25, 33, 56]), (36, [14, 23, 31, 47, 61]), (9, [20]), (18, [20])] : List (Nat × List Nat)).any (fun p => p.1 == f && p.2.contains d) then 2 else if ([(22, [46, 57]), (50, [14, 29])] : List (Nat × List Nat)).any (fun p => p.1 == f && p.2.contains d) then 3 else if ([(15, [110, 145]), (7, [49]), (8, [56])] : List (Nat × List Nat)).any (fun p => p.1 == f && p.2.contains d) then 9 else if ([(16, [66, 69])] : List (Nat × List Nat)).any (fun p => p.1 == f && p.2.contains d) then 5 else 0
theorem envMixed : env.P.follows .mixedOrders = true := Checked.mixed Try.checked
theorem envOk : progOk env.P = true := by kernel_rfl
theorem laidOut : laidOutB Try.prog = true := by kernel_rfl
theorem own : ownKnob Try.prog.godebug = none := by kernel_rfl
theorem envG (W : World) : GOK env (M0 W) := fun g cs e => by cases e
end Go.Proofs.Ytmfnadojephcpaa
