/-
  IntervalReference holds: whatever the arguments, the call returns true and leaves what it was given as it was.
  Conditions: none.
-/
import Derived.Test.YtahafnjlmcmhfaaF13
import Derived.Test.YtahafnjlmcmhfaaPvLaw
import Derived.Test.YtahafnjlmcmhfaaPvShape
import Derived.Test.YtahafnjlmcmhfaaRows
import Derived.ProofKit
import Derived.OpenShut
set_option linter.unusedVariables false
namespace Go.Proofs.Ytahafnjlmcmhfaa.intervalReference
open Go.Pv Go.ChangeShapes Go.WideShapes Go.ChangeAt Go.RowKit
theorem argI {xs : List IV} (h : OkC Try.prog 23 xs) : ∃ z0 z1 : Int, xs = [.int .i64 z0, .int .i64 z1] ∧ IntKind.i64.has z0 ∧ IntKind.i64.has z1 := by
  have h0 := h.struct_inv Try.underlying23
  obtain ⟨ys0, zs0, e0, a0, h1⟩ := OkF.cons_inv h0
  obtain ⟨z0, rfl, b0⟩ := a0.int_inv Try.underlying2
  obtain ⟨ys1, zs1, e1, a1, h2⟩ := OkF.cons_inv h1
  obtain ⟨z1, rfl, b1⟩ := a1.int_inv Try.underlying2
  obtain rfl := OkF.nil_inv h2
  subst e1
  subst e0
  exact ⟨z0, z1, rfl, b0, b1⟩

set_option maxRecDepth 100000 in
theorem lifted (os : Os) (started : os.Started) (H : Type) (enc : TypeId × Value → H) :
    ReturnsInHanded {} Try.checked os 7 .any (Rows.intervalReferenceSpec.pre6 enc Try.prog Try.f7 Rows.intervalReferenceRow.domain false) (Rows.intervalReferenceSpec.post enc Try.prog Try.f7 false true false false) := by
  refine returnsInHanded_of_change (C := Try.checked) (s := Rows.intervalReferenceSpec) own started (by kernel_rfl) Try.func7
    (ChangeSpec.witness6 (enc := enc) (C := Try.checked) (s := Rows.intervalReferenceSpec) false ⟨#[], #[.int .i64 0, .int .i64 0, .int .i64 0, .int .i64 0, .int .i64 0, .int .i64 0, .int .i64 0, .agg #[.int .i64 0, .int .i64 0], .agg #[.int .i64 0, .int .i64 0], .agg #[.int .i64 0, .int .i64 0], .int .i64 0], []⟩ 8 (by kernel_rfl) (by kernel_rfl) (by kernel_rfl) (by kernel_rfl)) ?_
  intro W base args ds gs before hval hW _ _
  have hW' := hW
  obtain ⟨p, q, hA0, hV, rfl, hfz, hnd⟩ := hW
  have hA : DataW.TrodAll enc Try.prog W 0 (fun _ => true) true Try.f7.params.toList args.toList ds p := hA0
  rw [Try.params7] at hA
  obtain ⟨v0, vs0, d0, ds0, p0, q0, e0, f0, g0, tr0, hA0⟩ := trodAll_cons hA
  obtain ⟨v1, vs1, d1, ds1, p1, q1, e1, f1, g1, tr1, hA1⟩ := trodAll_cons hA0
  obtain ⟨v2, vs2, d2, ds2, p2, q2, e2, f2, g2, tr2, hA2⟩ := trodAll_cons hA1
  obtain ⟨v3, vs3, d3, ds3, p3, q3, e3, f3, g3, tr3, hA3⟩ := trodAll_cons hA2
  obtain ⟨v4, vs4, d4, ds4, p4, q4, e4, f4, g4, tr4, hA4⟩ := trodAll_cons hA3
  obtain ⟨v5, vs5, d5, ds5, p5, q5, e5, f5, g5, tr5, hA5⟩ := trodAll_cons hA4
  obtain ⟨v6, vs6, d6, ds6, p6, q6, e6, f6, g6, tr6, hA6⟩ := trodAll_cons hA5
  obtain ⟨v7, vs7, d7, ds7, p7, q7, e7, f7, g7, tr7, hA7⟩ := trodAll_cons hA6
  obtain ⟨v8, vs8, d8, ds8, p8, q8, e8, f8, g8, tr8, hA8⟩ := trodAll_cons hA7
  obtain ⟨v9, vs9, d9, ds9, p9, q9, e9, f9, g9, tr9, hA9⟩ := trodAll_cons hA8
  obtain ⟨v10, vs10, d10, ds10, p10, q10, e10, f10, g10, tr10, hA10⟩ := trodAll_cons hA9
  obtain ⟨ez, rfl, rfl⟩ := trodAll_nil hA10
  subst ez
  subst f10
  subst e10
  subst f9
  subst e9
  subst f8
  subst e8
  subst f7
  subst e7
  subst f6
  subst e6
  subst f5
  subst e5
  subst f4
  subst e4
  subst f3
  subst e3
  subst f2
  subst e2
  subst f1
  subst e1
  subst f0
  obtain rfl : args = #[v0, v1, v2, v3, v4, v5, v6, v7, v8, v9, v10] := by cases args; simp_all
  obtain ⟨n0, rfl, b0⟩ := int_arg Try.underlying3 (hval 0 3 v0 (by kernel_rfl) rfl)
  have r0 := has_i64 b0
  obtain ⟨n1, rfl, b1⟩ := int_arg Try.underlying3 (hval 1 3 v1 (by kernel_rfl) rfl)
  have r1 := has_i64 b1
  obtain ⟨n2, rfl, b2⟩ := int_arg Try.underlying3 (hval 2 3 v2 (by kernel_rfl) rfl)
  have r2 := has_i64 b2
  obtain ⟨n3, rfl, b3⟩ := int_arg Try.underlying3 (hval 3 3 v3 (by kernel_rfl) rfl)
  have r3 := has_i64 b3
  obtain ⟨n4, rfl, b4⟩ := int_arg Try.underlying3 (hval 4 3 v4 (by kernel_rfl) rfl)
  have r4 := has_i64 b4
  obtain ⟨n5, rfl, b5⟩ := int_arg Try.underlying3 (hval 5 3 v5 (by kernel_rfl) rfl)
  have r5 := has_i64 b5
  obtain ⟨n6, rfl, b6⟩ := int_arg Try.underlying3 (hval 6 3 v6 (by kernel_rfl) rfl)
  have r6 := has_i64 b6
  obtain ⟨xs7, ok7, vr7⟩ := arg_ok (P := Try.prog) 8 (by kernel_rfl) (hval 7 23 v7 (by kernel_rfl) rfl) tr7
  obtain ⟨lo7, hi7, rfl, bl7, bh7⟩ := argI ok7
  have w7 := vr7 (.agg [.int .i64 lo7, .int .i64 hi7]) (by kernel_rfl)
  obtain ⟨xs8, ok8, vr8⟩ := arg_ok (P := Try.prog) 8 (by kernel_rfl) (hval 8 23 v8 (by kernel_rfl) rfl) tr8
  obtain ⟨lo8, hi8, rfl, bl8, bh8⟩ := argI ok8
  have w8 := vr8 (.agg [.int .i64 lo8, .int .i64 hi8]) (by kernel_rfl)
  obtain ⟨xs9, ok9, vr9⟩ := arg_ok (P := Try.prog) 8 (by kernel_rfl) (hval 9 23 v9 (by kernel_rfl) rfl) tr9
  obtain ⟨lo9, hi9, rfl, bl9, bh9⟩ := argI ok9
  have w9 := vr9 (.agg [.int .i64 lo9, .int .i64 hi9]) (by kernel_rfl)
  obtain ⟨n10, rfl, b10⟩ := int_arg Try.underlying2 (hval 10 2 v10 (by kernel_rfl) rfl)
  have r10 := has_i64 b10
  obtain ⟨rfl, rfl⟩ := trodVars_none hV
  have hc : CallW env 7 [.int .i64 n0, .int .i64 n1, .int .i64 n2, .int .i64 n3, .int .i64 n4, .int .i64 n5, .int .i64 n6, .agg [.int .i64 lo7, .int .i64 hi7], .agg [.int .i64 lo8, .int .i64 hi8], .agg [.int .i64 lo9, .int .i64 hi9], .int .i64 n10] Heap.empty fun v _ => v = .bool true := sRefL _ _ _ ⟨⟨⟨⟨has_i64 bl7, has_i64 bh7⟩, has_i64 bl8, has_i64 bh8⟩, ⟨has_i64 bl9, has_i64 bh9⟩, r10⟩, rfl⟩
  refine (run_trueW (E := env) envMixed envOk hc W (rs := [.int .i64 n0, .int .i64 n1, .int .i64 n2, .int .i64 n3, .int .i64 n4, .int .i64 n5, .int .i64 n6, v7, v8, v9, .int .i64 n10]) (envG W) (VRs.cons (.int _ _) (VRs.cons (.int _ _) (VRs.cons (.int _ _) (VRs.cons (.int _ _) (VRs.cons (.int _ _) (VRs.cons (.int _ _) (VRs.cons (.int _ _) (VRs.cons w7 (VRs.cons w8 (VRs.cons w9 (VRs.cons (.int _ _) (VRs.nil _))))))))))))).mono fun e W' ⟨he, hb⟩ => ?_
  exact ⟨_, he, post_of_below (tb := 4) laidOut (by kernel_rfl) (by kernel_rfl) Try.underlying4 hW' rfl hb rfl rfl rfl⟩

theorem over : Rows.intervalReferenceRow.holds Try.pinned (OpenSpec.ofChange Rows.intervalReferenceSpec) :=
  OpenClaim.holds_of_wide 7 Try.f7 rfl rfl rfl rfl rfl rfl rfl ⟨rfl, rfl, rfl, rfl, rfl⟩ rfl rfl rfl rfl rfl (by kernel_rfl) Try.func7 (by kernel_rfl)
    (of_decide_eq_true (by kernel_rfl)) (by unfold Func.isWrapper; first | (rw [if_pos (by decide +kernel)]; kernel_rfl) | (rw [if_neg (by decide +kernel)]; exact ⟨rfl, rfl⟩))
    (fun os started H enc _ => lifted os started H enc)

theorem proved : Rows.IntervalReferenceSaid :=
  over
end Go.Proofs.Ytahafnjlmcmhfaa.intervalReference
