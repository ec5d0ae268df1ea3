/-
  TermNames holds: whatever the arguments, the call returns true and leaves what it was given as it was.
  Conditions: none.
-/
import Derived.Test.YthpjgnmgbjdoaaaA10
import Derived.Test.YthpjgnmgbjdoaaaPvLaw
import Derived.Test.YthpjgnmgbjdoaaaPvShape
import Derived.Test.YthpjgnmgbjdoaaaRows
import Derived.ProofKit
import Derived.OpenShut
set_option linter.unusedVariables false
namespace Go.Proofs.Ythpjgnmgbjdoaaa.termNames
open Go.Pv Go.ChangeShapes Go.WideShapes Go.ChangeAt Go.RowKit
 
set_option maxRecDepth 100000 in
theorem lifted (os : Os) (started : os.Started) (H : Type) (enc : TypeId × Value → H) :
    ReturnsInHanded {} Try.checked os 3 .any (Rows.termNamesSpec.pre6 enc Try.prog Try.f3 Rows.termNamesRow.domain false) (Rows.termNamesSpec.post enc Try.prog Try.f3 false true false false) := by
  refine returnsInHanded_of_change (C := Try.checked) (s := Rows.termNamesSpec) own started (by kernel_rfl) Try.func3
    (ChangeSpec.witness6 (enc := enc) (C := Try.checked) (s := Rows.termNamesSpec) false ⟨#[], #[.int .i64 0, .int .i64 0], []⟩ 8 (by kernel_rfl) (by kernel_rfl) (by kernel_rfl) (by kernel_rfl)) ?_
  intro W base args ds gs before hval hW _ _
  have hW' := hW
  obtain ⟨p, q, hA0, hV, rfl, hfz, hnd⟩ := hW
  have hA : DataW.TrodAll enc Try.prog W 0 (fun _ => true) true Try.f3.params.toList args.toList ds p := hA0
  rw [Try.params3] at hA
  obtain ⟨v0, vs0, d0, ds0, p0, q0, e0, f0, g0, tr0, hA0⟩ := trodAll_cons hA
  obtain ⟨v1, vs1, d1, ds1, p1, q1, e1, f1, g1, tr1, hA1⟩ := trodAll_cons hA0
  obtain ⟨ez, rfl, rfl⟩ := trodAll_nil hA1
  subst ez
  subst f1
  subst e1
  subst f0
  obtain rfl : args = #[v0, v1] := by cases args; simp_all
  obtain ⟨n0, rfl, b0⟩ := int_arg Try.underlying3 (hval 0 3 v0 (by kernel_rfl) rfl)
  have r0 := has_i64 b0
  obtain ⟨n1, rfl, b1⟩ := int_arg Try.underlying3 (hval 1 3 v1 (by kernel_rfl) rfl)
  have r1 := has_i64 b1
  obtain ⟨rfl, rfl⟩ := trodVars_none hV
  have hc : CallW env 3 [.int .i64 n0, .int .i64 n1] Heap.empty fun v _ => v = .bool true := sNamesL _ _ _ rfl
  refine (run_trueW (E := env) envMixed envOk hc W (rs := [.int .i64 n0, .int .i64 n1]) (envG W) (VRs.cons (.int _ _) (VRs.cons (.int _ _) (VRs.nil _)))).mono fun e W' ⟨he, hb⟩ => ?_
  exact ⟨_, he, post_of_below (tb := 4) laidOut (by kernel_rfl) (by kernel_rfl) Try.underlying4 hW' rfl hb rfl rfl rfl⟩

theorem over : Rows.termNamesRow.holds Try.pinned (OpenSpec.ofChange Rows.termNamesSpec) :=
  OpenClaim.holds_of_wide 3 Try.f3 rfl rfl rfl rfl rfl rfl rfl ⟨rfl, rfl, rfl, rfl, rfl⟩ rfl rfl rfl rfl rfl (by kernel_rfl) Try.func3 (by kernel_rfl)
    (of_decide_eq_true (by kernel_rfl)) (by unfold Func.isWrapper; first | (rw [if_pos (by decide +kernel)]; kernel_rfl) | (rw [if_neg (by decide +kernel)]; exact ⟨rfl, rfl⟩))
    (fun os started H enc _ => lifted os started H enc)

theorem proved : Rows.TermNamesSaid :=
  over
end Go.Proofs.Ythpjgnmgbjdoaaa.termNames
