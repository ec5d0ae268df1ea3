/-
  The program of this seat as Pv runs it: which rows and variables lie in Pv's heap; the table that the rows list.
  Conditions: none.
-/
import Derived.Test.YtfmcdageaananaaDoorPvArgs
import Derived.Test.YtfmcdageaananaaDoorPvVS
import Derived.Test.YtfmcdageaananaaDoorM29
import Derived.Test.YtfmcdageaananaaDoorRows
import Derived.Eval
import Derived.KernelRfl
import Derived.RowKit
import Derived.Deep.DeepWitnessRowRef
set_option linter.unusedVariables false
namespace Go.Proofs.YtfmcdageaananaaDoor
open Go.Pv Go.RowKit

/-- a table of sites -/
def tab (l : List (Nat × List Nat)) (f d : Nat) : Nat := match l.find? (fun p => p.1 == f) with
  | some (_, ds) => if ds.contains d then 1 else 0
  | none => 0

/-- the table's cells, a row after the other -/
def Keep.tabC : List IV := Go.M29.rows.flatMap fun r => [.str r.nm, .int .i64 r.fm, .bool r.ra, .bool r.wa, .bool r.rb, .bool r.mt, .int .i64 r.wd]
def Keep.nmsC : List IV := .str [] :: Go.M29.rows.map fun r => .str r.nm
def Keep.glob : List IV := [.vslice none 0 37 7 Keep.tabC]
noncomputable def tableCells : Option (List IV) := dcells Tryd.prog 12 49 (Rows.laid_fulling_machine_table (H := Unit))
theorem table_is : tableCells = some Keep.glob := by kernel_rfl

noncomputable def env : Env where
  P := Tryd.prog
  G := fun g => if g = 0 then some Keep.glob else none
  A := tab []
  bx := tab [(10, [14]), (18, [10]), (46, [3])]
  fz := fun f => ([] : List Nat).contains f
  nf := fun f => true
  iso := fun f => !(f == 37)

theorem envMixed : env.P.follows .mixedOrders = true := Checked.mixed Tryd.checked
theorem envOk : progOk env.P = true := by kernel_rfl
theorem laidOut : laidOutB Tryd.prog = true := by kernel_rfl
theorem own : ownKnob Tryd.prog.godebug = none := by kernel_rfl
theorem gTab : Tryd.prog.globalNamed "fulling/machine.table" = some 0 := by kernel_rfl
theorem gTabType : (Tryd.prog.globals[0]?).map (·.type) = some 49 := by kernel_rfl
theorem noHandles : ([("fulling/machine.table", Rows.laid_fulling_machine_table)] : List (String × DataW Unit)).filter (fun x => x.2.handleName?.isSome) = [] := by kernel_rfl

/-- the table lies in memory: what Pv asks of the program's variables -/
theorem envG {W : World} (h : laidMetH Tryd.prog [("fulling/machine.table", Rows.laid_fulling_machine_table)] W) : GOK env (M0 W) := by
  intro g cs e
  have e' : (if g = 0 then some Keep.glob else none) = some cs := e
  split at e'
  · rename_i hg
    subst hg
    exact laid_vref gTab gTabType (laidMet_of noHandles h) (table_is.trans e')
  · cases e'

/-- the cells of a datum -/
def litVal : Lit → Value
  | .bool b => .bool b
  | .int k n => .int k n
  | .string l => .string ⟨l.toArray⟩
  | _ => undef
def rowVals : DataW Unit → List Value
  | .slice es _ => es.flatMap fun
    | .agg ds => ds.map fun
      | .lit l => litVal l
      | _ => undef
    | _ => []
  | _ => []
def rowLen : DataW Unit → Nat
  | .slice es _ => es.length
  | _ => 0

/-- a memory for the witness: the settled one, the table's cells in a block of their own -/
noncomputable def laidHeap (h : Array Obj) : Array Obj :=
  Array.push (h.modify 0 fun o => match o with
    | .cells _ t frozen => .cells #[.slice (some ⟨h.size, 0, none⟩) (rowLen Rows.laid_fulling_machine_table) (rowLen Rows.laid_fulling_machine_table)] t frozen
    | o => o) (.cells (rowVals Rows.laid_fulling_machine_table).toArray 23 (0, 0))
noncomputable def laidWorld (os : Os) : World :=
  { World.holding Tryd.prog os ⟨#[], #[], []⟩ with heap := laidHeap (World.holding Tryd.prog os ⟨#[], #[], []⟩).heap }
end Go.Proofs.YtfmcdageaananaaDoor
