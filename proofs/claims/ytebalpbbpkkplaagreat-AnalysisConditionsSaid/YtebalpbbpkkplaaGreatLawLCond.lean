/-
  AnalysisConditions holds: whatever the arguments, the call returns true and leaves what it was given as it was.
  Conditions: none.
-/
import Derived.Test.YtebalpbbpkkplaaGreatC14
import Derived.Test.YtebalpbbpkkplaaGreatPvLaw
import Derived.Test.YtebalpbbpkkplaaGreatPvShape
import Derived.Test.YtebalpbbpkkplaaGreatRows
import Derived.ProofKit
import Derived.OpenShut
set_option linter.unusedVariables false
namespace Go.Proofs.YtebalpbbpkkplaaGreat.analysisConditions
open Go.Pv Go.ChangeShapes Go.WideShapes Go.ChangeAt Go.RowKit
theorem argC {xs : List IV} (h : OkC Tryz.prog 23 xs) : ∃ z0 z1 z2 z3 : Int, xs = [.int .i64 z0, .int .i64 z1, .int .i64 z2, .int .i64 z3] ∧ IntKind.i64.has z0 ∧ IntKind.i64.has z1 ∧ IntKind.i64.has z2 ∧ IntKind.i64.has z3 := by
  have h0 := h.struct_inv Tryz.underlying23
  obtain ⟨ys0, zs0, e0, a0, h1⟩ := OkF.cons_inv h0
  obtain ⟨z0, rfl, b0⟩ := a0.int_inv Tryz.underlying3
  obtain ⟨ys1, zs1, e1, a1, h2⟩ := OkF.cons_inv h1
  obtain ⟨z1, rfl, b1⟩ := a1.int_inv Tryz.underlying3
  obtain ⟨ys2, zs2, e2, a2, h3⟩ := OkF.cons_inv h2
  obtain ⟨z2, rfl, b2⟩ := a2.int_inv Tryz.underlying3
  obtain ⟨ys3, zs3, e3, a3, h4⟩ := OkF.cons_inv h3
  obtain ⟨z3, rfl, b3⟩ := a3.int_inv Tryz.underlying2
  obtain rfl := OkF.nil_inv h4
  subst e3
  subst e2
  subst e1
  subst e0
  exact ⟨z0, z1, z2, z3, rfl, b0, b1, b2, b3⟩
theorem argI {xs : List IV} (h : OkC Tryz.prog 31 xs) : ∃ z0 z1 : Int, xs = [.int .i64 z0, .int .i64 z1] ∧ IntKind.i64.has z0 ∧ IntKind.i64.has z1 := by
  have h0 := h.struct_inv Tryz.underlying31
  obtain ⟨ys0, zs0, e0, a0, h1⟩ := OkF.cons_inv h0
  obtain ⟨z0, rfl, b0⟩ := a0.int_inv Tryz.underlying2
  obtain ⟨ys1, zs1, e1, a1, h2⟩ := OkF.cons_inv h1
  obtain ⟨z1, rfl, b1⟩ := a1.int_inv Tryz.underlying2
  obtain rfl := OkF.nil_inv h2
  subst e1
  subst e0
  exact ⟨z0, z1, rfl, b0, b1⟩
theorem argH {xs : List IV} (h : OkC Tryz.prog 24 xs) : ∃ H : List (Int × Int), xs = [.vslice none 0 H.length 2 (H.flatMap Go.M14.cR)] ∧ H.length ≤ maxLen := by
  obtain ⟨n, cs, rfl, hn, he⟩ := h.slice_inv Tryz.underlying24
  obtain ⟨H, rfl, rfl, _⟩ := he.list (c := Go.M14.cR) (good := fun _ => True) (fun ys hy => by
    obtain ⟨z0, z1, rfl, _, _⟩ := argI hy
    exact ⟨(z0, z1), rfl, trivial⟩)
  have e : Tryz.prog.cellsOf 31 = 2 := by kernel_rfl
  exact ⟨H, by rw [e], hn⟩
theorem argL {xs : List IV} (h : OkC Tryz.prog 25 xs) : ∃ l : List Int, xs = [.vslice none 0 l.length 1 (l.map (IV.int .i64))] ∧ l.length ≤ maxLen ∧ ∀ a ∈ l, -9223372036854775808 ≤ a ∧ a ≤ 9223372036854775807 := by
  obtain ⟨n, cs, rfl, hn, he⟩ := h.slice_inv Tryz.underlying25
  obtain ⟨l, rfl, rfl, hl⟩ := he.ints Tryz.underlying3
  have e : Tryz.prog.cellsOf 3 = 1 := by kernel_rfl
  exact ⟨l, by rw [e], hn, fun a ha => by simpa [IntKind.has, IntKind.min, IntKind.max, IntKind.bits, IntKind.signed] using hl a ha⟩
theorem mxl : maxLen ≤ 9223372036854775807 := by decide

set_option maxRecDepth 100000 in
theorem lifted (os : Os) (started : os.Started) (H : Type) (enc : TypeId × Value → H) :
    ReturnsInHanded {} Tryz.checked os 3 .any (Rows.analysisConditionsSpec.pre6 enc Tryz.prog Tryz.f3 Rows.analysisConditionsRow.domain false) (Rows.analysisConditionsSpec.post enc Tryz.prog Tryz.f3 false true false false) := by
  refine returnsInHanded_of_change (C := Tryz.checked) (s := Rows.analysisConditionsSpec) own started (by kernel_rfl) Tryz.func3
    (ChangeSpec.witness6 (enc := enc) (C := Tryz.checked) (s := Rows.analysisConditionsSpec) false ⟨#[], #[.agg #[.int .i64 0, .int .i64 0, .int .i64 0, .int .i64 0], .int .i64 0, .slice none 0 0, .slice none 0 0], []⟩ 8 (by kernel_rfl) (by kernel_rfl) (by kernel_rfl) (by kernel_rfl)) ?_
  intro W base args ds gs before hval hW _ _
  have hW' := hW
  obtain ⟨p, q, hA0, hV, rfl, hfz, hnd⟩ := hW
  have hA : DataW.TrodAll enc Tryz.prog W 0 (fun _ => true) true Tryz.f3.params.toList args.toList ds p := hA0
  rw [Tryz.params3] at hA
  obtain ⟨v0, vs0, d0, ds0, p0, q0, e0, f0, g0, tr0, hA0⟩ := trodAll_cons hA
  obtain ⟨v1, vs1, d1, ds1, p1, q1, e1, f1, g1, tr1, hA1⟩ := trodAll_cons hA0
  obtain ⟨v2, vs2, d2, ds2, p2, q2, e2, f2, g2, tr2, hA2⟩ := trodAll_cons hA1
  obtain ⟨v3, vs3, d3, ds3, p3, q3, e3, f3, g3, tr3, hA3⟩ := trodAll_cons hA2
  obtain ⟨ez, rfl, rfl⟩ := trodAll_nil hA3
  subst ez
  subst f3
  subst e3
  subst f2
  subst e2
  subst f1
  subst e1
  subst f0
  obtain rfl : args = #[v0, v1, v2, v3] := by cases args; simp_all
  obtain ⟨xs0, ok0, vr0⟩ := arg_ok (P := Tryz.prog) 8 (by kernel_rfl) (hval 0 23 v0 (by kernel_rfl) rfl) tr0
  obtain ⟨k0, a0, b0, n0, rfl, hk0, ha0, hb0, hn0⟩ := argC ok0
  have w0 := vr0 (.agg [.int .i64 k0, .int .i64 a0, .int .i64 b0, .int .i64 n0]) (by kernel_rfl)
  obtain ⟨n1, rfl, b1⟩ := int_arg Tryz.underlying3 (hval 1 3 v1 (by kernel_rfl) rfl)
  have r1 := has_i64 b1
  obtain ⟨xs2, ok2, vr2⟩ := arg_ok (P := Tryz.prog) 8 (by kernel_rfl) (hval 2 24 v2 (by kernel_rfl) rfl) tr2
  obtain ⟨H2, rfl, hb2⟩ := argH ok2
  have w2 := vr2 (.vslice none 0 H2.length 2 (H2.flatMap Go.M14.cR)) (by kernel_rfl)
  obtain ⟨xs3, ok3, vr3⟩ := arg_ok (P := Tryz.prog) 8 (by kernel_rfl) (hval 3 25 v3 (by kernel_rfl) rfl) tr3
  obtain ⟨l3, rfl, hb3, hl3⟩ := argL ok3
  have w3 := vr3 (.vslice none 0 l3.length 1 (l3.map (IV.int .i64))) (by kernel_rfl)
  obtain ⟨rfl, rfl⟩ := trodVars_none hV
  have hc : CallW env 3 [.agg [.int .i64 k0, .int .i64 a0, .int .i64 b0, .int .i64 n0], .int .i64 n1, .vslice none 0 H2.length 2 (H2.flatMap Go.M14.cR), .vslice none 0 l3.length 1 (l3.map (IV.int .i64))] Heap.empty fun v _ => v = .bool true := sLCond _ _ _ ⟨H2, l3, ⟨rfl, rfl⟩, ⟨rfl, rfl⟩, ⟨Nat.le_trans hb2 mxl, Nat.le_trans hb3 mxl, hl3⟩, rfl⟩
  refine (run_trueW (E := env) envMixed envOk hc W (rs := [v0, .int .i64 n1, v2, v3]) (envG W) (VRs.cons w0 (VRs.cons (.int _ _) (VRs.cons w2 (VRs.cons w3 (VRs.nil _)))))).mono fun e W' ⟨he, hb⟩ => ?_
  exact ⟨_, he, post_of_below (tb := 4) laidOut (by kernel_rfl) (by kernel_rfl) Tryz.underlying4 hW' rfl hb rfl rfl rfl⟩

theorem over : Rows.analysisConditionsRow.holds Tryz.pinned (OpenSpec.ofChange Rows.analysisConditionsSpec) :=
  OpenClaim.holds_of_wide 3 Tryz.f3 rfl rfl rfl rfl rfl rfl rfl ⟨rfl, rfl, rfl, rfl, rfl⟩ rfl rfl rfl rfl rfl (by kernel_rfl) Tryz.func3 (by kernel_rfl)
    (of_decide_eq_true (by kernel_rfl)) (by unfold Func.isWrapper; first | (rw [if_pos (by decide +kernel)]; kernel_rfl) | (rw [if_neg (by decide +kernel)]; exact ⟨rfl, rfl⟩))
    (fun os started H enc _ => lifted os started H enc)

theorem proved : Rows.AnalysisConditionsSaid :=
  over
end Go.Proofs.YtebalpbbpkkplaaGreat.analysisConditions
