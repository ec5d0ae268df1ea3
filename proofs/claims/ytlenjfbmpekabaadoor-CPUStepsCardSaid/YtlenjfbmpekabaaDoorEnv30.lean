import Derived.Test.YtlenjfbmpekabaaDoorPvArgs
import Derived.Test.YtlenjfbmpekabaaDoorPvVS
import Derived.Test.YtlenjfbmpekabaaDoorM29
import Derived.Test.YtlenjfbmpekabaaDoorRows
import Derived.Eval
import Derived.KernelRfl
import Derived.RowKit
import Derived.Deep.DeepWitnessRowRef
set_option linter.unusedVariables false
namespace Go.Proofs.YtlenjfbmpekabaaDoor
open Go.Pv Go.RowKit
def vI (l : List Int) : IV := .vslice none 0 l.length 1 (l.map (IV.int .i64))
def vW (l : List Int) : IV := .vslice none 0 l.length 1 (l.map (IV.int .u32))
def tab (l : List (Nat × List Nat)) (f d : Nat) : Nat := match l.find? (fun p => p.1 == f) with
 | some (_, ds) => if ds.contains d then 1 else 0
 | none => 0
def Keep.tabC : List IV := Go.M29.rows.flatMap fun r => [.str r.nm, .int .i64 r.fm, .bool r.ra, .bool r.wa, .bool r.rb, .bool r.mt, .int .i64 r.wd]
def Keep.nmsC : List IV := .str [] :: Go.M29.rows.map fun r => .str r.nm
def Keep.glob : List IV := [.vslice none 0 37 7 Keep.tabC]
noncomputable def tableCells : Option (List IV) := dcells Tryd.prog 12 115 (Rows.laid_fulling_machine_table (H := Unit))
theorem table_is : tableCells = some Keep.glob := by kernel_rfl
def tabN (l : List (Nat × Nat × List Nat)) (f r : Nat) : List Nat := match l.find? (fun p => p.1 == f && p.2.1 == r) with
 | some (_, _, ds) => ds
 | none => []
noncomputable def env : Env where
 P := Tryd.prog
 G := fun g => if g = 0 then some Keep.glob else none
 A := tab [(46, [9]), (11, [18]), (39, [25]), (19, [133]), (55, [84]), (75, [29])]
 bx := tab [(44, [4]), (14, [8]), (19, [59, 132]), (20, [59]), (55, [82]), (66, [10])]
 fz := fun f => ([46, 52] : List Nat).contains f
 nf := fun f => true
 iso := fun f => !([19, 20, 27, 28, 29, 30, 31, 32, 33, 34, 36, 39, 42, 50, 55, 56, 57, 58, 59, 60, 70, 72, 74, 75, 80] : List Nat).contains f
 ld := fun f d => ([(50, [8, 13]), (14, [83]), (28, [14, 2]), (33, [127, 131]), (23, [42, 10]), (21, [10]), (7, [84, 85]), (4, [50, 71])] : List (Nat × List Nat)).any fun p => p.1 == f && p.2.contains d
 ln := fun f d => if ([(58, [73]), (60, [17]), (34, [250]), (19, [111]), (20, [86]), (28, [20])] : List (Nat × List Nat)).any (fun p => p.1 == f && p.2.contains d) then 1 else if ([(74, [20, 27]), (75, [19, 27, 35])] : List (Nat × List Nat)).any (fun p => p.1 == f && p.2.contains d) then 2 else if ([(32, [6]), (55, [19, 32, 36, 48, 52, 71]), (58, [12, 16]), (27, [18]), (19, [81]), (59, [30, 40]), (72, [14]), (34, [379, 433, 442, 457, 463]), (33, [95, 105])] : List (Nat × List Nat)).any (fun p => p.1 == f && p.2.contains d) then 5 else if ([(55, [40]), (58, [20])] : List (Nat × List Nat)).any (fun p => p.1 == f && p.2.contains d) then 4 else 0
 an := tabN [(34, 30, [5, 15]), (34, 43, [5])]
 od := tabN [(33, 1, [2, 3, 4, 5, 0, 1, 6, 7, 10, 11, 12, 13, 8, 9, 14, 15, 16, 19, 20, 21, 22, 23, 17, 18, 24, 25])]
theorem envMixed : env.P.follows .mixedOrders = true := Checked.mixed Tryd.checked
theorem envOk : progOk env.P = true := by kernel_rfl
theorem laidOut : laidOutB Tryd.prog = true := by kernel_rfl
theorem own : ownKnob Tryd.prog.godebug = none := by kernel_rfl
theorem gTab : Tryd.prog.globalNamed "fulling/machine.table" = some 0 := by kernel_rfl
theorem gTabType : (Tryd.prog.globals[0]?).map (·.type) = some 115 := by kernel_rfl
theorem noHandles : ([("fulling/machine.table", Rows.laid_fulling_machine_table)] : List (String × DataW Unit)).filter (fun x => x.2.handleName?.isSome) = [] := by kernel_rfl
theorem envG {W : World} (h : laidMetH Tryd.prog [("fulling/machine.table", Rows.laid_fulling_machine_table)] W) : GOK env (M0 W) := by
 intro g cs e
 have e' : (if g = 0 then some Keep.glob else none) = some cs := e
 split at e'
 ·rename_i hg
  subst hg
  exact laid_vref gTab gTabType (laidMet_of noHandles h) (table_is.trans e')
 ·cases e'
def litVal : Lit -> Value
 | .bool b => .bool b
 | .int k n => .int k n
 | .string l => .string ⟨l.toArray⟩
 | _ => undef
def rowVals : DataW Unit -> List Value
 | .slice es _ => es.flatMap fun
   | .agg ds => ds.map fun
     | .lit l => litVal l
     | _ => undef
   | _ => []
 | _ => []
def rowLen : DataW Unit -> Nat
 | .slice es _ => es.length
 | _ => 0
noncomputable def laidHeap (h : Array Obj) : Array Obj :=
 Array.push (h.modify 0 fun o => match o with
  | .cells _ t frozen => .cells #[.slice (some ⟨h.size, 0, none⟩) (rowLen Rows.laid_fulling_machine_table) (rowLen Rows.laid_fulling_machine_table)] t frozen
  | o => o) (.cells (rowVals Rows.laid_fulling_machine_table).toArray 69 (0, 0))
noncomputable def laidWorld (os : Os) : World :=
 { World.holding Tryd.prog os ⟨#[], #[], []⟩ with heap := laidHeap (World.holding Tryd.prog os ⟨#[], #[], []⟩).heap }
end Go.Proofs.YtlenjfbmpekabaaDoor
