/-
  PatternReference holds where what is read is of bulk at most 1048576: whatever the arguments, the call returns true and leaves what it was given as it was.
  Conditions: none.
-/
import Derived.Test.YtmfnadojephcpaaLP15
import Derived.Test.YtmfnadojephcpaaT15
import Derived.Test.YtmfnadojephcpaaPvLaw
import Derived.Test.YtmfnadojephcpaaPvShape
import Derived.Test.YtmfnadojephcpaaRows
import Derived.ProofKit
import Derived.OpenShut
import Derived.JoinedCond
set_option linter.unusedVariables false
namespace Go.Proofs.Ytmfnadojephcpaa.patternReference
open Go.Pv Go.ChangeShapes Go.WideShapes Go.ChangeAt Go.RowKit
theorem argL {xs : List IV} (h : OkC Try.prog 26 xs) : ∃ l : List Int, xs = [.vslice none 0 l.length 1 (l.map (IV.int .i64))] ∧ (∀ a ∈ l, Go.M15.i64b a) ∧ l.length ≤ 9223372036854775807 := by
  obtain ⟨n, cs, rfl, hn, he⟩ := h.slice_inv Try.underlying26
  obtain ⟨l, rfl, rfl, hl⟩ := he.ints Try.underlying3
  have e : Try.prog.cellsOf 3 = 1 := by kernel_rfl
  exact ⟨l, by rw [e], fun a ha => has_i64 (hl a ha), by unfold maxLen at hn; omega⟩
theorem argK {xs : List IV} (h : OkC Try.prog 40 xs) : ∃ l : List Int, xs = [.vslice none 0 l.length 1 (l.map (IV.int .i64))] ∧ (∀ a ∈ l, Go.M15.i64b a) ∧ l.length ≤ 9223372036854775807 := by
  obtain ⟨n, cs, rfl, hn, he⟩ := h.slice_inv Try.underlying40
  obtain ⟨l, rfl, rfl, hl⟩ := he.ints Try.underlying2
  have e : Try.prog.cellsOf 2 = 1 := by kernel_rfl
  exact ⟨l, by rw [e], fun a ha => has_i64 (hl a ha), by unfold maxLen at hn; omega⟩
theorem bulk_one {H : Type} (d : DataW H) : 1 ≤ Rows.uptoBulk d := by
  cases d with
  | lit l => cases l <;> simp [Rows.uptoBulk]
  | nil => simp [Rows.uptoBulk]
  | ptr d => simp [Rows.uptoBulk]
  | slice elems spare => simp [Rows.uptoBulk]
  | agg parts => simp [Rows.uptoBulk]
  | iface t d => simp [Rows.uptoBulk]
  | map entries => simp [Rows.uptoBulk]
  | held h => simp [Rows.uptoBulk]
/-- the types of a pattern's parts -/
def partTys (t : TypeId) : Bool := t == 24 || t == 22 || t == 3 || t == 2
theorem partTys_step : ∀ t, partTys t = true → stepTy Try.prog partTys t = true := by
  intro t ht
  simp only [partTys, Bool.or_eq_true, beq_iff_eq] at ht
  rcases ht with ((rfl | rfl) | rfl) | rfl <;> kernel_rfl
theorem argT {H : Type} {enc : TypeId × Value → H} {W : World} {base : Nat} {v : Value} {d : DataW H} {p : List MemPlace} (hok : Value.okWide Try.prog W .any base 24 v) (h : DataW.Trod enc Try.prog W 0 (fun _ => true) true 24 v d p) :
    ∃ t : Go.M15.T, t.ok ∧ 2 * t.num ≤ Rows.uptoBulk d ∧ VR (M0 W) (.agg (cT t)) v := by
  obtain ⟨n, xs, h1, h2, h3⟩ := arg_okS partTys_step (t := 24) rfl hok h
  obtain ⟨t, rfl, t1, t2⟩ := tree_of (bulk := Rows.uptoBulk) (bulks := Rows.uptoBulkAll) (fun p => by simp only [Rows.uptoBulk]) (fun e s => by simp only [Rows.uptoBulk]) (fun d r => by simp only [Rows.uptoBulkAll]) bulk_one Try.underlying24 rfl Try.underlying3 Try.underlying3 Try.underlying2 Try.underlying3 Try.underlying22 (by kernel_rfl) n d xs h1 h2
  exact ⟨t, t1, t2, h3 _ (by unfold argOf; rw [Try.underlying24])⟩

theorem contract (H : Type) (enc : TypeId × Value → H) (W : World) (base : Nat) (args : Array Value) (ds gs : List (DataW H)) (before : List MemPlace)
    (hval : ∀ (j : Nat) t v, Try.f6.params[j]? = some t → args[j]? = some v → Value.okWide Try.prog W .any base t v)
    (hW : DataW.Whole enc Try.prog Try.f6.params.toList Rows.patternReferenceSpec.vars false W args.toList ds gs before)
    (hb0 : Rows.uptoSmall H (ds ++ gs) = true) :
    Calls Try.prog 6 args W fun e W' => ∃ v, e = .returned v ∧ Rows.patternReferenceSpec.post enc Try.prog Try.f6 false true false false W args v W' := by
  have hW' := hW
  obtain ⟨p, q, hA0, hV, rfl, hfz, hnd⟩ := hW
  have hA : DataW.TrodAll enc Try.prog W 0 (fun _ => true) true Try.f6.params.toList args.toList ds p := hA0
  rw [Try.params6] at hA
  obtain ⟨v0, vs0, d0, ds0, p0, q0, e0, f0, g0, tr0, hA0⟩ := trodAll_cons hA
  obtain ⟨v1, vs1, d1, ds1, p1, q1, e1, f1, g1, tr1, hA1⟩ := trodAll_cons hA0
  obtain ⟨v2, vs2, d2, ds2, p2, q2, e2, f2, g2, tr2, hA2⟩ := trodAll_cons hA1
  obtain ⟨v3, vs3, d3, ds3, p3, q3, e3, f3, g3, tr3, hA3⟩ := trodAll_cons hA2
  obtain ⟨v4, vs4, d4, ds4, p4, q4, e4, f4, g4, tr4, hA4⟩ := trodAll_cons hA3
  obtain ⟨v5, vs5, d5, ds5, p5, q5, e5, f5, g5, tr5, hA5⟩ := trodAll_cons hA4
  obtain ⟨v6, vs6, d6, ds6, p6, q6, e6, f6, g6, tr6, hA6⟩ := trodAll_cons hA5
  obtain ⟨v7, vs7, d7, ds7, p7, q7, e7, f7, g7, tr7, hA7⟩ := trodAll_cons hA6
  obtain ⟨v8, vs8, d8, ds8, p8, q8, e8, f8, g8, tr8, hA8⟩ := trodAll_cons hA7
  obtain ⟨ez, rfl, rfl⟩ := trodAll_nil hA8
  subst ez
  subst f8
  subst e8
  subst f7
  subst e7
  subst f6
  subst e6
  subst f5
  subst e5
  subst f4
  subst e4
  subst f3
  subst e3
  subst f2
  subst e2
  subst f1
  subst e1
  subst f0
  obtain rfl : args = #[v0, v1, v2, v3, v4, v5, v6, v7, v8] := by cases args; simp_all
  obtain ⟨⟨tv0, top0, tim0, tiv0, tks0⟩, tok0, tn0, w0⟩ := argT (hval 0 24 v0 (by kernel_rfl) rfl) tr0
  obtain ⟨xs1, ok1, vr1⟩ := arg_ok (P := Try.prog) 8 (by kernel_rfl) (hval 1 26 v1 (by kernel_rfl) rfl) tr1
  obtain ⟨l1, rfl, hl1⟩ := argL ok1
  have w1 := vr1 (.vslice none 0 l1.length 1 (l1.map (IV.int .i64))) (by kernel_rfl)
  obtain ⟨xs2, ok2, vr2⟩ := arg_ok (P := Try.prog) 8 (by kernel_rfl) (hval 2 26 v2 (by kernel_rfl) rfl) tr2
  obtain ⟨l2, rfl, hl2⟩ := argL ok2
  have w2 := vr2 (.vslice none 0 l2.length 1 (l2.map (IV.int .i64))) (by kernel_rfl)
  obtain ⟨n3, rfl, b3⟩ := int_arg Try.underlying3 (hval 3 3 v3 (by kernel_rfl) rfl)
  have r3 := has_i64 b3
  obtain ⟨n4, rfl, b4⟩ := int_arg Try.underlying3 (hval 4 3 v4 (by kernel_rfl) rfl)
  have r4 := has_i64 b4
  obtain ⟨n5, rfl, b5⟩ := int_arg Try.underlying3 (hval 5 3 v5 (by kernel_rfl) rfl)
  have r5 := has_i64 b5
  obtain ⟨n6, rfl, b6⟩ := int_arg Try.underlying3 (hval 6 3 v6 (by kernel_rfl) rfl)
  have r6 := has_i64 b6
  obtain ⟨xs7, ok7, vr7⟩ := arg_ok (P := Try.prog) 8 (by kernel_rfl) (hval 7 26 v7 (by kernel_rfl) rfl) tr7
  obtain ⟨l7, rfl, hl7⟩ := argL ok7
  have w7 := vr7 (.vslice none 0 l7.length 1 (l7.map (IV.int .i64))) (by kernel_rfl)
  obtain ⟨xs8, ok8, vr8⟩ := arg_ok (P := Try.prog) 8 (by kernel_rfl) (hval 8 40 v8 (by kernel_rfl) rfl) tr8
  obtain ⟨l8, rfl, hl8⟩ := argK ok8
  have w8 := vr8 (.vslice none 0 l8.length 1 (l8.map (IV.int .i64))) (by kernel_rfl)
  obtain ⟨rfl, rfl⟩ := trodVars_none hV
  have bz0 : (Go.M15.T.mk tv0 top0 tim0 tiv0 tks0).num ≤ 600000 := by
    have hq := of_decide_eq_true hb0
    simp only [List.cons_append, List.nil_append, Rows.uptoBulkAll] at hq
    omega
  have hc : CallW env 6 [.agg [.int .i64 tv0, .int .i64 top0, .int .i64 tim0, .int .i64 tiv0, .vslice none 0 tks0.length 5 (cTs tks0)], .vslice none 0 l1.length 1 (l1.map (IV.int .i64)), .vslice none 0 l2.length 1 (l2.map (IV.int .i64)), .int .i64 n3, .int .i64 n4, .int .i64 n5, .int .i64 n6, .vslice none 0 l7.length 1 (l7.map (IV.int .i64)), .vslice none 0 l8.length 1 (l8.map (IV.int .i64))] Heap.empty fun v _ => v = .bool true := sRefL _ _ _ ⟨tks0, l1, l2, l7, l8, ⟨rfl, rfl⟩, ⟨rfl, rfl⟩, ⟨rfl, rfl⟩, ⟨rfl, rfl⟩, ⟨rfl, rfl⟩, ⟨tok0, bz0⟩, ⟨⟨r3, r4⟩, r5, r6⟩, ⟨hl1, hl2, hl7, hl8⟩, rfl⟩
  refine (run_trueW (E := env) envMixed envOk hc W (rs := [v0, v1, v2, .int .i64 n3, .int .i64 n4, .int .i64 n5, .int .i64 n6, v7, v8]) (envG W) (VRs.cons w0 (VRs.cons w1 (VRs.cons w2 (VRs.cons (.int _ _) (VRs.cons (.int _ _) (VRs.cons (.int _ _) (VRs.cons (.int _ _) (VRs.cons w7 (VRs.cons w8 (VRs.nil _))))))))))).mono fun e W' ⟨he, hb⟩ => ?_
  exact ⟨_, he, post_of_below (tb := 4) laidOut (by kernel_rfl) (by kernel_rfl) Try.underlying4 hW' rfl hb rfl rfl rfl⟩

set_option maxRecDepth 100000 in
theorem lifted (os : Os) (started : os.Started) (H : Type) (enc : TypeId × Value → H) (F : Stop.Interp) :
    ReturnsInHanded {} Try.checked os 6 .any ((Rows.OpenSpec.upto Rows.patternReferenceSpec).pre6 enc Try.prog Try.f6 Rows.patternReferenceUptoRow.domain false) (((Rows.OpenSpec.upto Rows.patternReferenceSpec).at F).post enc Try.prog Try.f6 false true false false) := by
  refine returnsInHanded_of_cond (C := Try.checked) (s := Rows.OpenSpec.upto Rows.patternReferenceSpec) (k := Rows.uptoSmall) rfl own started (by kernel_rfl) Try.func6
    (OpenSpec.witness (enc := enc) (C := Try.checked) (s := Rows.OpenSpec.upto Rows.patternReferenceSpec) (k := Rows.uptoSmall) rfl false ⟨#[], #[.agg #[.int .i64 0, .int .i64 0, .int .i64 0, .int .i64 0, .slice none 0 0], .slice none 0 0, .slice none 0 0, .int .i64 0, .int .i64 0, .int .i64 0, .int .i64 0, .slice none 0 0, .slice none 0 0], []⟩ 8 (by kernel_rfl) (by kernel_rfl) (by kernel_rfl)
      (x := ([.agg [.lit (.int .i64 0), .lit (.int .i64 0), .lit (.int .i64 0), .lit (.int .i64 0), .nil], .nil, .nil, .lit (.int .i64 0), .lit (.int .i64 0), .lit (.int .i64 0), .lit (.int .i64 0), .nil, .nil], [], [])) (by kernel_rfl) rfl (by kernel_rfl)) ?_
  intro W base args ds gs before hval hW _ hk _
  exact contract H enc W base args ds gs before hval hW hk

theorem over : Rows.patternReferenceUptoRow.holds Try.pinned (Rows.OpenSpec.upto Rows.patternReferenceSpec) :=
  OpenClaim.holds_of_cond 6 Try.f6 rfl rfl rfl rfl rfl rfl rfl ⟨rfl, rfl, rfl, rfl, rfl⟩ rfl rfl rfl rfl rfl (by kernel_rfl) Try.func6 (by kernel_rfl)
    (of_decide_eq_true (by kernel_rfl)) (by unfold Func.isWrapper; first | (rw [if_pos (by decide +kernel)]; kernel_rfl) | (rw [if_neg (by decide +kernel)]; exact ⟨rfl, rfl⟩))
    (fun os started H enc _ F => lifted os started H enc F)

theorem proved : Rows.PatternReferenceUptoSaid :=
  over
end Go.Proofs.Ytmfnadojephcpaa.patternReference
