/-
  TermRoundTrip holds: whatever the arguments, the call returns true and leaves what it was given as it was.
  Conditions: none.
-/
import Derived.Test.YthoehkkoaegeoaaH10b
import Derived.Test.YthoehkkoaegeoaaPvLaw
import Derived.Test.YthoehkkoaegeoaaPvShape
import Derived.Test.YthoehkkoaegeoaaRows
import Derived.ProofKit
import Derived.OpenShut
set_option linter.unusedVariables false
namespace Go.Proofs.Ythoehkkoaegeoaa.termRoundTrip
open Go.Pv Go.ChangeShapes Go.WideShapes Go.ChangeAt Go.RowKit
theorem argL {xs : List IV} (h : OkC Try.prog 22 xs) : ∃ l : List Int, xs = [.vslice none 0 l.length 1 (l.map (IV.int .i64))] ∧ (∀ a ∈ l, Go.M15.i64b a) ∧ l.length ≤ 9223372036854775807 := by
  obtain ⟨n, cs, rfl, hn, he⟩ := h.slice_inv Try.underlying22
  obtain ⟨l, rfl, rfl, hl⟩ := he.ints Try.underlying3
  have e : Try.prog.cellsOf 3 = 1 := by kernel_rfl
  exact ⟨l, by rw [e], fun a ha => has_i64 (hl a ha), by unfold maxLen at hn; omega⟩

set_option maxRecDepth 100000 in
theorem lifted (os : Os) (started : os.Started) (H : Type) (enc : TypeId × Value → H) :
    ReturnsInHanded {} Try.checked os 4 .any (Rows.termRoundTripSpec.pre6 enc Try.prog Try.f4 Rows.termRoundTripRow.domain false) (Rows.termRoundTripSpec.post enc Try.prog Try.f4 false true false false) := by
  refine returnsInHanded_of_change (C := Try.checked) (s := Rows.termRoundTripSpec) own started (by kernel_rfl) Try.func4
    (ChangeSpec.witness6 (enc := enc) (C := Try.checked) (s := Rows.termRoundTripSpec) false ⟨#[], #[.slice none 0 0, .int .i64 0], []⟩ 8 (by kernel_rfl) (by kernel_rfl) (by kernel_rfl) (by kernel_rfl)) ?_
  intro W base args ds gs before hval hW _ _
  have hW' := hW
  obtain ⟨p, q, hA0, hV, rfl, hfz, hnd⟩ := hW
  have hA : DataW.TrodAll enc Try.prog W 0 (fun _ => true) true Try.f4.params.toList args.toList ds p := hA0
  rw [Try.params4] at hA
  obtain ⟨v0, vs0, d0, ds0, p0, q0, e0, f0, g0, tr0, hA0⟩ := trodAll_cons hA
  obtain ⟨v1, vs1, d1, ds1, p1, q1, e1, f1, g1, tr1, hA1⟩ := trodAll_cons hA0
  obtain ⟨ez, rfl, rfl⟩ := trodAll_nil hA1
  subst ez
  subst f1
  subst e1
  subst f0
  obtain rfl : args = #[v0, v1] := by cases args; simp_all
  obtain ⟨xs0, ok0, vr0⟩ := arg_ok (P := Try.prog) 8 (by kernel_rfl) (hval 0 22 v0 (by kernel_rfl) rfl) tr0
  obtain ⟨l0, rfl, hl0⟩ := argL ok0
  have w0 := vr0 (.vslice none 0 l0.length 1 (l0.map (IV.int .i64))) (by kernel_rfl)
  obtain ⟨n1, rfl, b1⟩ := int_arg Try.underlying3 (hval 1 3 v1 (by kernel_rfl) rfl)
  have r1 := has_i64 b1
  obtain ⟨rfl, rfl⟩ := trodVars_none hV
  have hc : CallW env 4 [.vslice none 0 l0.length 1 (l0.map (IV.int .i64)), .int .i64 n1] Heap.empty fun v _ => v = .bool true := sTripL _ _ _ ⟨l0, ⟨rfl, rfl⟩, ⟨hl0.1, hl0.2, r1⟩, rfl⟩
  refine (run_trueW (E := env) envMixed envOk hc W (rs := [v0, .int .i64 n1]) (envG W) (VRs.cons w0 (VRs.cons (.int _ _) (VRs.nil _)))).mono fun e W' ⟨he, hb⟩ => ?_
  exact ⟨_, he, post_of_below (tb := 4) laidOut (by kernel_rfl) (by kernel_rfl) Try.underlying4 hW' rfl hb rfl rfl rfl⟩

theorem over : Rows.termRoundTripRow.holds Try.pinned (OpenSpec.ofChange Rows.termRoundTripSpec) :=
  OpenClaim.holds_of_wide 4 Try.f4 rfl rfl rfl rfl rfl rfl rfl ⟨rfl, rfl, rfl, rfl, rfl⟩ rfl rfl rfl rfl rfl (by kernel_rfl) Try.func4 (by kernel_rfl)
    (of_decide_eq_true (by kernel_rfl)) (by unfold Func.isWrapper; first | (rw [if_pos (by decide +kernel)]; kernel_rfl) | (rw [if_neg (by decide +kernel)]; exact ⟨rfl, rfl⟩))
    (fun os started H enc _ => lifted os started H enc)

theorem proved : Rows.TermRoundTripSaid :=
  over
end Go.Proofs.Ythoehkkoaegeoaa.termRoundTrip
