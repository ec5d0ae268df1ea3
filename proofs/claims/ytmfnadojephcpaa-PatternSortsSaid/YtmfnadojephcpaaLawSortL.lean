/-
  PatternSorts holds: whatever the arguments, the call returns true and leaves what it was given as it was.
  Conditions: none.
-/
import Derived.Test.YtmfnadojephcpaaO15
import Derived.Test.YtmfnadojephcpaaPvLaw
import Derived.Test.YtmfnadojephcpaaPvShape
import Derived.Test.YtmfnadojephcpaaRows
import Derived.ProofKit
import Derived.OpenShut
import Derived.SizedLaws
set_option linter.unusedVariables false
namespace Go.Proofs.Ytmfnadojephcpaa.patternSorts
open Go.Pv Go.ChangeShapes Go.WideShapes Go.ChangeAt Go.RowKit
theorem argL {xs : List IV} (h : OkC Try.prog 26 xs) : ∃ l : List Int, xs = [.vslice none 0 l.length 1 (l.map (IV.int .i64))] ∧ (∀ a ∈ l, Go.M15.i64b a) ∧ l.length ≤ 9223372036854775807 := by
  obtain ⟨n, cs, rfl, hn, he⟩ := h.slice_inv Try.underlying26
  obtain ⟨l, rfl, rfl, hl⟩ := he.ints Try.underlying3
  have e : Try.prog.cellsOf 3 = 1 := by kernel_rfl
  exact ⟨l, by rw [e], fun a ha => has_i64 (hl a ha), by unfold maxLen at hn; omega⟩

theorem rb : reachBytes = 140737488351232 := by decide
set_option maxRecDepth 100000 in
theorem lifted (os : Os) (started : os.Started) (H : Type) (enc : TypeId × Value → H) :
    ReturnsInHanded {} Try.checked os 8 .any (Rows.patternSortsSpec.pre6 enc Try.prog Try.f8 Rows.patternSortsRow.domain false) (Rows.patternSortsSpec.post enc Try.prog Try.f8 false true false false) := by
  refine returnsInHanded_of_change_sized (C := Try.checked) (s := Rows.patternSortsSpec) own started (by kernel_rfl) Try.func8
    (ChangeSpec.witness6 (enc := enc) (C := Try.checked) (s := Rows.patternSortsSpec) false ⟨#[], #[.slice none 0 0, .slice none 0 0, .slice none 0 0], []⟩ 8 (by kernel_rfl) (by kernel_rfl) (by kernel_rfl) (by kernel_rfl)) ?_
  intro W base args ds gs before hval hW _ hz _
  have hW' := hW
  obtain ⟨p, q, hA0, hV, rfl, hfz, hnd⟩ := hW
  have hA : DataW.TrodAll enc Try.prog W 0 (fun _ => true) true Try.f8.params.toList args.toList ds p := hA0
  rw [Try.params8] at hA
  obtain ⟨v0, vs0, d0, ds0, p0, q0, e0, f0, g0, tr0, hA0⟩ := trodAll_cons hA
  obtain ⟨v1, vs1, d1, ds1, p1, q1, e1, f1, g1, tr1, hA1⟩ := trodAll_cons hA0
  obtain ⟨v2, vs2, d2, ds2, p2, q2, e2, f2, g2, tr2, hA2⟩ := trodAll_cons hA1
  obtain ⟨ez, rfl, rfl⟩ := trodAll_nil hA2
  subst ez
  subst f2
  subst e2
  subst f1
  subst e1
  subst f0
  obtain rfl : args = #[v0, v1, v2] := by cases args; simp_all
  obtain ⟨xs0, ok0, vr0, sz0⟩ := arg_ok2 (P := Try.prog) 8 (by kernel_rfl) (hval 0 26 v0 (by kernel_rfl) rfl) tr0
  obtain ⟨l0, rfl, hl0⟩ := argL ok0
  have w0 := vr0 (.vslice none 0 l0.length 1 (l0.map (IV.int .i64))) (by kernel_rfl)
  obtain ⟨xs1, ok1, vr1⟩ := arg_ok (P := Try.prog) 8 (by kernel_rfl) (hval 1 26 v1 (by kernel_rfl) rfl) tr1
  obtain ⟨l1, rfl, hl1⟩ := argL ok1
  have w1 := vr1 (.vslice none 0 l1.length 1 (l1.map (IV.int .i64))) (by kernel_rfl)
  obtain ⟨xs2, ok2, vr2⟩ := arg_ok (P := Try.prog) 8 (by kernel_rfl) (hval 2 26 v2 (by kernel_rfl) rfl) tr2
  obtain ⟨l2, rfl, hl2⟩ := argL ok2
  have w2 := vr2 (.vslice none 0 l2.length 1 (l2.map (IV.int .i64))) (by kernel_rfl)
  obtain ⟨rfl, rfl⟩ := trodVars_none hV
  have bz0 : l0.length * 8 ≤ reachBytes := by
    rcases sz0 _ _ _ _ Try.underlying26 rfl with q | ⟨elems, spare, q, q2⟩
    · rw [q]; omega
    · have := sized_slice hz (j := 0) (t := 26) (by kernel_rfl) (congrArg some q) Try.underlying26
      first | rw [show Try.prog.bytesOf 3 = 8 by kernel_rfl] at this | rw [show Try.checked.prog.bytesOf 3 = 8 by kernel_rfl] at this
      rw [q2]
      exact Nat.le_trans (Nat.mul_le_mul_right _ (Nat.le_add_right _ _)) this
  have hc : CallW env 8 [.vslice none 0 l0.length 1 (l0.map (IV.int .i64)), .vslice none 0 l1.length 1 (l1.map (IV.int .i64)), .vslice none 0 l2.length 1 (l2.map (IV.int .i64))] Heap.empty fun v _ => v = .bool true := sSortL _ _ _ ⟨l0, l1, l2, ⟨rfl, rfl⟩, ⟨rfl, rfl⟩, ⟨rfl, rfl⟩, ⟨hl0.1, hl1.1, hl2.1, (by have := Nat.le_trans bz0 (Nat.le_of_eq rb); omega), hl1.2, hl2.2⟩, rfl⟩
  refine (run_trueW (E := env) envMixed envOk hc W (rs := [v0, v1, v2]) (envG W) (VRs.cons w0 (VRs.cons w1 (VRs.cons w2 (VRs.nil _))))).mono fun e W' ⟨he, hb⟩ => ?_
  exact ⟨_, he, post_of_below (tb := 4) laidOut (by kernel_rfl) (by kernel_rfl) Try.underlying4 hW' rfl hb rfl rfl rfl⟩

theorem over : Rows.patternSortsRow.holds Try.pinned (OpenSpec.ofChange Rows.patternSortsSpec) :=
  OpenClaim.holds_of_wide 8 Try.f8 rfl rfl rfl rfl rfl rfl rfl ⟨rfl, rfl, rfl, rfl, rfl⟩ rfl rfl rfl rfl rfl (by kernel_rfl) Try.func8 (by kernel_rfl)
    (of_decide_eq_true (by kernel_rfl)) (by unfold Func.isWrapper; first | (rw [if_pos (by decide +kernel)]; kernel_rfl) | (rw [if_neg (by decide +kernel)]; exact ⟨rfl, rfl⟩))
    (fun os started H enc _ => lifted os started H enc)

theorem proved : Rows.PatternSortsSaid :=
  over
end Go.Proofs.Ytmfnadojephcpaa.patternSorts
