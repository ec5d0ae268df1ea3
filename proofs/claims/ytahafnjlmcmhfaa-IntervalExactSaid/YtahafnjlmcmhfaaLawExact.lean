/-
  IntervalExact holds: whatever the arguments, the call returns true and leaves what it was given as it was.
  Conditions: none.
-/
import Derived.Test.YtahafnjlmcmhfaaB13
import Derived.Test.YtahafnjlmcmhfaaPvLaw
import Derived.Test.YtahafnjlmcmhfaaRows
import Derived.ProofKit
import Derived.OpenShut
set_option linter.unusedVariables false
namespace Go.Proofs.Ytahafnjlmcmhfaa.intervalExact
open Go.Pv Go.ChangeShapes Go.WideShapes Go.ChangeAt Go.RowKit

set_option maxRecDepth 100000 in
theorem lifted (os : Os) (started : os.Started) (H : Type) (enc : TypeId × Value → H) :
    ReturnsInHanded {} Try.checked os 5 .any (Rows.intervalExactSpec.pre6 enc Try.prog Try.f5 Rows.intervalExactRow.domain false) (Rows.intervalExactSpec.post enc Try.prog Try.f5 false true false false) := by
  refine returnsInHanded_of_change (C := Try.checked) (s := Rows.intervalExactSpec) own started (by kernel_rfl) Try.func5
    (ChangeSpec.witness6 (enc := enc) (C := Try.checked) (s := Rows.intervalExactSpec) false ⟨#[], #[.int .i64 0, .int .i64 0, .int .i64 0, .int .i64 0, .int .i64 0], []⟩ 8 (by kernel_rfl) (by kernel_rfl) (by kernel_rfl) (by kernel_rfl)) ?_
  intro W base args ds gs before hval hW _ _
  have hW' := hW
  obtain ⟨p, q, hA0, hV, rfl, hfz, hnd⟩ := hW
  have hA : DataW.TrodAll enc Try.prog W 0 (fun _ => true) true Try.f5.params.toList args.toList ds p := hA0
  rw [Try.params5] at hA
  obtain ⟨v0, vs0, d0, ds0, p0, q0, e0, f0, g0, tr0, hA0⟩ := trodAll_cons hA
  obtain ⟨v1, vs1, d1, ds1, p1, q1, e1, f1, g1, tr1, hA1⟩ := trodAll_cons hA0
  obtain ⟨v2, vs2, d2, ds2, p2, q2, e2, f2, g2, tr2, hA2⟩ := trodAll_cons hA1
  obtain ⟨v3, vs3, d3, ds3, p3, q3, e3, f3, g3, tr3, hA3⟩ := trodAll_cons hA2
  obtain ⟨v4, vs4, d4, ds4, p4, q4, e4, f4, g4, tr4, hA4⟩ := trodAll_cons hA3
  obtain ⟨ez, rfl, rfl⟩ := trodAll_nil hA4
  subst ez
  subst f4
  subst e4
  subst f3
  subst e3
  subst f2
  subst e2
  subst f1
  subst e1
  subst f0
  obtain rfl : args = #[v0, v1, v2, v3, v4] := by cases args; simp_all
  obtain ⟨n0, rfl, b0⟩ := int_arg Try.underlying3 (hval 0 3 v0 (by kernel_rfl) rfl)
  have r0 := has_i64 b0
  obtain ⟨n1, rfl, b1⟩ := int_arg Try.underlying3 (hval 1 3 v1 (by kernel_rfl) rfl)
  have r1 := has_i64 b1
  obtain ⟨n2, rfl, b2⟩ := int_arg Try.underlying3 (hval 2 3 v2 (by kernel_rfl) rfl)
  have r2 := has_i64 b2
  obtain ⟨n3, rfl, b3⟩ := int_arg Try.underlying2 (hval 3 2 v3 (by kernel_rfl) rfl)
  have r3 := has_i64 b3
  obtain ⟨n4, rfl, b4⟩ := int_arg Try.underlying2 (hval 4 2 v4 (by kernel_rfl) rfl)
  have r4 := has_i64 b4
  obtain ⟨rfl, rfl⟩ := trodVars_none hV
  have hc : CallW env 5 [.int .i64 n0, .int .i64 n1, .int .i64 n2, .int .i64 n3, .int .i64 n4] Heap.empty fun v _ => v = .bool true := sExact _ _ _ rfl
  refine (run_trueW (E := env) envMixed envOk hc W (rs := [.int .i64 n0, .int .i64 n1, .int .i64 n2, .int .i64 n3, .int .i64 n4]) (envG W) (VRs.cons (.int _ _) (VRs.cons (.int _ _) (VRs.cons (.int _ _) (VRs.cons (.int _ _) (VRs.cons (.int _ _) (VRs.nil _))))))).mono fun e W' ⟨he, hb⟩ => ?_
  exact ⟨_, he, post_of_below (tb := 4) laidOut (by kernel_rfl) (by kernel_rfl) Try.underlying4 hW' rfl hb rfl rfl rfl⟩

theorem over : Rows.intervalExactRow.holds Try.pinned (OpenSpec.ofChange Rows.intervalExactSpec) :=
  OpenClaim.holds_of_wide 5 Try.f5 rfl rfl rfl rfl rfl rfl rfl ⟨rfl, rfl, rfl, rfl, rfl⟩ rfl rfl rfl rfl rfl (by kernel_rfl) Try.func5 (by kernel_rfl)
    (of_decide_eq_true (by kernel_rfl)) (by unfold Func.isWrapper; first | (rw [if_pos (by decide +kernel)]; kernel_rfl) | (rw [if_neg (by decide +kernel)]; exact ⟨rfl, rfl⟩))
    (fun os started H enc _ => lifted os started H enc)

theorem proved : Rows.IntervalExactSaid :=
  over
end Go.Proofs.Ytahafnjlmcmhfaa.intervalExact
