import Derived.Test.YtgfllfgdojiioaaGreatQ14s
import Derived.Test.YtgfllfgdojiioaaGreatPvLaw
import Derived.Test.YtgfllfgdojiioaaGreatPvShape
import Derived.Test.YtgfllfgdojiioaaGreatRows
import Derived.ProofKit
import Derived.OpenShut
set_option linter.unusedVariables false
namespace Go.Proofs.YtgfllfgdojiioaaGreat.analysisSound
open Go.Pv Go.ChangeShapes Go.WideShapes Go.ChangeAt Go.RowKit
theorem argL {xs : List IV} (h : OkC Tryz.prog 22 xs) : ∃ l : List Int, xs = [.vslice none 0 l.length 1 (l.map (IV.int .i64))] /\ (∀ a ∈ l, Go.M15.i64b a) /\ l.length <= 9223372036854775807 := by
 obtain ⟨n, cs, rfl, hn, he⟩ := h.slice_inv Tryz.underlying22
 obtain ⟨l, rfl, rfl, hl⟩ := he.ints Tryz.underlying3
 have e : Tryz.prog.cellsOf 3 = 1 := by kernel_rfl
 exact ⟨l, by rw [e], fun a ha => has_i64 (hl a ha), by unfold maxLen at hn; omega⟩
set_option maxRecDepth 100000 in
theorem lifted (os : Os) (started : os.Started) (H : Type) (enc : TypeId × Value -> H) :
  ReturnsInHanded {} Tryz.checked os 3 .any (Rows.analysisSoundSpec.pre6 enc Tryz.prog Tryz.f3 Rows.analysisSoundRow.domain false) (Rows.analysisSoundSpec.post enc Tryz.prog Tryz.f3 false true false false) := by
 refine returnsInHanded_of_change (C := Tryz.checked) (s := Rows.analysisSoundSpec) own started (by kernel_rfl) Tryz.func3
  (ChangeSpec.witness6 (enc := enc) (C := Tryz.checked) (s := Rows.analysisSoundSpec) false ⟨#[], #[.slice none 0 0, .int .i64 0, .int .i64 0, .int .i64 0], []⟩ 8 (by kernel_rfl) (by kernel_rfl) (by kernel_rfl) (by kernel_rfl)) ?_
 intro W base args ds gs before hval hW _ _
 have hW' := hW
 obtain ⟨p, q, hA0, hV, rfl, hfz, hnd⟩ := hW
 have hA : DataW.TrodAll enc Tryz.prog W 0 (fun _ => true) true Tryz.f3.params.toList args.toList ds p := hA0
 rw [Tryz.params3] at hA
 obtain ⟨v0, vs0, d0, ds0, p0, q0, e0, f0, g0, tr0, hA0⟩ := trodAll_cons hA
 obtain ⟨v1, vs1, d1, ds1, p1, q1, e1, f1, g1, tr1, hA1⟩ := trodAll_cons hA0
 obtain ⟨v2, vs2, d2, ds2, p2, q2, e2, f2, g2, tr2, hA2⟩ := trodAll_cons hA1
 obtain ⟨v3, vs3, d3, ds3, p3, q3, e3, f3, g3, tr3, hA3⟩ := trodAll_cons hA2
 obtain ⟨ez, rfl, rfl⟩ := trodAll_nil hA3
 subst ez
 subst f3
 subst e3
 subst f2
 subst e2
 subst f1
 subst e1
 subst f0
 obtain rfl : args = #[v0, v1, v2, v3] := by cases args; simp_all
 obtain ⟨xs0, ok0, vr0⟩ := arg_ok (P := Tryz.prog) 8 (by kernel_rfl) (hval 0 22 v0 (by kernel_rfl) rfl) tr0
 obtain ⟨l0, rfl, hl0⟩ := argL ok0
 have w0 := vr0 (.vslice none 0 l0.length 1 (l0.map (IV.int .i64))) (by kernel_rfl)
 obtain ⟨n1, rfl, b1⟩ := int_arg Tryz.underlying3 (hval 1 3 v1 (by kernel_rfl) rfl)
 have r1 := has_i64 b1
 obtain ⟨n2, rfl, b2⟩ := int_arg Tryz.underlying3 (hval 2 3 v2 (by kernel_rfl) rfl)
 have r2 := has_i64 b2
 obtain ⟨n3, rfl, b3⟩ := int_arg Tryz.underlying2 (hval 3 2 v3 (by kernel_rfl) rfl)
 have r3 := has_i64 b3
 obtain ⟨rfl, rfl⟩ := trodVars_none hV
 have hc : CallW env 3 [.vslice none 0 l0.length 1 (l0.map (IV.int .i64)), .int .i64 n1, .int .i64 n2, .int .i64 n3] Heap.empty fun v _ => v = .bool true := sSoundL _ _ _ ⟨l0, ⟨rfl, rfl⟩, ⟨hl0.1, hl0.2, r3⟩, rfl⟩
 refine (run_trueW (E := env) envMixed envOk hc W (rs := [v0, .int .i64 n1, .int .i64 n2, .int .i64 n3]) (envG W) (VRs.cons w0 (VRs.cons (.int _ _) (VRs.cons (.int _ _) (VRs.cons (.int _ _) (VRs.nil _)))))).mono fun e W' ⟨he, hb⟩ => ?_
 exact ⟨_, he, post_of_below (tb := 4) laidOut (by kernel_rfl) (by kernel_rfl) Tryz.underlying4 hW' rfl hb rfl rfl rfl⟩
theorem over : Rows.analysisSoundRow.holds Tryz.pinned (OpenSpec.ofChange Rows.analysisSoundSpec) :=
 OpenClaim.holds_of_wide 3 Tryz.f3 rfl rfl rfl rfl rfl rfl rfl ⟨rfl, rfl, rfl, rfl, rfl⟩ rfl rfl rfl rfl rfl (by kernel_rfl) Tryz.func3 (by kernel_rfl)
  (of_decide_eq_true (by kernel_rfl)) (by unfold Func.isWrapper; first | (rw [if_pos (by decide +kernel)]; kernel_rfl) | (rw [if_neg (by decide +kernel)]; exact ⟨rfl, rfl⟩))
  (fun os started H enc _ => lifted os started H enc)
theorem proved : Rows.AnalysisSoundSaid :=
 over
end Go.Proofs.YtgfllfgdojiioaaGreat.analysisSound
