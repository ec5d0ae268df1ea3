/-
  MachineDistinct holds: whatever the arguments, the call returns true and leaves what it was given as it was; the table that the row lists is tied to the program's text.
  Conditions: none.
-/
import Derived.Test.YtfmcdageaananaaDoorI29
import Derived.Test.YtfmcdageaananaaDoorPvLaw
import Derived.Test.YtfmcdageaananaaDoorPvShape
import Derived.Test.YtfmcdageaananaaDoorCards
import Derived.Test.YtfmcdageaananaaDoorTie
import Derived.ProofKit
import Derived.OpenShut
set_option linter.unusedVariables false
namespace Go.Proofs.YtfmcdageaananaaDoor.machineDistinct
open Go.Pv Go.ChangeShapes Go.WideShapes Go.ChangeAt Go.RowKit
 
/-- no parameter of a list of types wants a stand-in -/
theorem wants_of {P : Program} {ts : Array TypeId} (h : ts.toList.all (fun t => !P.wantsStandIn t) = true) {j : Nat} {t : TypeId} (ht : ts[j]? = some t) : P.wantsStandIn t = false := by
  rw [List.all_eq_true] at h
  have : t ∈ ts.toList := by
    rw [← Array.getElem?_toList] at ht
    exact List.mem_of_getElem? ht
  simpa using h t this

theorem contract (H : Type) (enc : TypeId × Value → H) (W : World) (base : Nat) (args : Array Value) (ds gs : List (DataW H)) (before : List MemPlace)
    (hval : ∀ (j : Nat) t v, Tryd.f7.params[j]? = some t → args[j]? = some v → Value.okWide Tryd.prog W .any base t v)
    (hW : DataW.Whole enc Tryd.prog Tryd.f7.params.toList Rows.machineDistinctSpec.vars false W args.toList ds gs before) (hL : laidMetH Tryd.prog Rows.machineDistinctRow.laid W) :
    Calls Tryd.prog 7 args W fun e W' => ∃ v, e = .returned v ∧ Rows.machineDistinctSpec.post enc Tryd.prog Tryd.f7 false true false false W args v W' := by
  have hW' := hW
  obtain ⟨p, q, hA0, hV, rfl, hfz, hnd⟩ := hW
  have hA : DataW.TrodAll enc Tryd.prog W 0 (fun _ => true) true Tryd.f7.params.toList args.toList ds p := hA0
  rw [Tryd.params7] at hA
  obtain ⟨v0, vs0, d0, ds0, p0, q0, e0, f0, g0, tr0, hA0⟩ := trodAll_cons hA
  obtain ⟨v1, vs1, d1, ds1, p1, q1, e1, f1, g1, tr1, hA1⟩ := trodAll_cons hA0
  obtain ⟨v2, vs2, d2, ds2, p2, q2, e2, f2, g2, tr2, hA2⟩ := trodAll_cons hA1
  obtain ⟨v3, vs3, d3, ds3, p3, q3, e3, f3, g3, tr3, hA3⟩ := trodAll_cons hA2
  obtain ⟨ez, rfl, rfl⟩ := trodAll_nil hA3
  subst ez
  subst f3
  subst e3
  subst f2
  subst e2
  subst f1
  subst e1
  subst f0
  obtain rfl : args = #[v0, v1, v2, v3] := by cases args; simp_all
  obtain ⟨n0, rfl, b0⟩ := int_arg Tryd.underlying3 (hval 0 3 v0 (by kernel_rfl) rfl)
  have r0 := has_i64 b0
  obtain ⟨n1, rfl, b1⟩ := int_arg Tryd.underlying3 (hval 1 3 v1 (by kernel_rfl) rfl)
  have r1 := has_i64 b1
  obtain ⟨n2, rfl, b2⟩ := int_arg Tryd.underlying3 (hval 2 3 v2 (by kernel_rfl) rfl)
  have r2 := has_i64 b2
  obtain ⟨n3, rfl, b3⟩ := int_arg Tryd.underlying3 (hval 3 3 v3 (by kernel_rfl) rfl)
  have r3 := has_i64 b3
  obtain ⟨rfl, rfl⟩ := trodVars_none hV
  have hc : CallW env 7 [.int .i64 n0, .int .i64 n1, .int .i64 n2, .int .i64 n3] Heap.empty fun v _ => v = .bool true := sDistL _ _ _ ⟨⟨r0, r1⟩, rfl⟩
  refine (run_trueW (E := env) envMixed envOk hc W (rs := [.int .i64 n0, .int .i64 n1, .int .i64 n2, .int .i64 n3]) (envG hL) (VRs.cons (.int _ _) (VRs.cons (.int _ _) (VRs.cons (.int _ _) (VRs.cons (.int _ _) (VRs.nil _)))))).mono fun e W' ⟨he, hb⟩ => ?_
  exact ⟨_, he, post_of_below (tb := 4) laidOut (by kernel_rfl) (by kernel_rfl) Tryd.underlying4 hW' rfl hb rfl rfl rfl⟩

theorem laid_met (os : Os) : laidMetH Tryd.prog Rows.machineDistinctRow.laid ((laidWorld os).forCall (fun _ _ => 0) ⟨#[], #[.int .i64 0, .int .i64 0, .int .i64 0, .int .i64 0], []⟩).memory := by
  have h : laidMet Tryd.prog [("fulling/machine.table", Rows.laid_fulling_machine_table)] ((laidWorld os).forCall (fun _ _ => 0) ⟨#[], #[.int .i64 0, .int .i64 0, .int .i64 0, .int .i64 0], []⟩).memory :=
    laidMet_of_run' 8 (by kernel_rfl) (by kernel_rfl)
  show laidMetH Tryd.prog [("fulling/machine.table", Rows.laid_fulling_machine_table)] _
  unfold laidMetH
  rw [noHandles]
  exact h
theorem reads (os : Os) {H : Type} (enc : TypeId × Value → H) : ∃ places, DataW.whole enc Tryd.prog ((laidWorld os).forCall (fun _ _ => 0) ⟨#[], #[.int .i64 0, .int .i64 0, .int .i64 0, .int .i64 0], []⟩).memory Tryd.f7.params.toList Rows.machineDistinctSpec.vars false (#[.int .i64 0, .int .i64 0, .int .i64 0, .int .i64 0] : Array Value).toList 8 = some ([.lit (.int .i64 0), .lit (.int .i64 0), .lit (.int .i64 0), .lit (.int .i64 0)], [], places) :=
  ⟨[], by kernel_rfl⟩

set_option maxRecDepth 100000 in
theorem lifted (os : Os) (started : os.Started) (H : Type) (enc : TypeId × Value → H) (F : Stop.Interp) :
    ReturnsInHanded {} Tryd.checked os 7 .any ((OpenSpec.ofChange Rows.machineDistinctSpec).preRow enc Tryd.prog Tryd.f7 Rows.machineDistinctRow.domain false Rows.machineDistinctRow.laid) (((OpenSpec.ofChange Rows.machineDistinctSpec).at F).post enc Tryd.prog Tryd.f7 false true false false) := by
  obtain ⟨places, hx⟩ := reads os enc
  refine returnsInHanded_of_row (C := Tryd.checked) (s := OpenSpec.ofChange Rows.machineDistinctSpec) own started (by kernel_rfl) Tryd.func7
    (witness_row_atRef (enc := enc) (C := Tryd.checked) false (laidWorld os) #[.int .i64 0, .int .i64 0, .int .i64 0, .int .i64 0] rfl (by kernel_rfl) (by kernel_rfl) (by kernel_rfl)
      (OpenSpec.preRow_of_cond 8 hx (by kernel_rfl) (fun k hk => by cases hk) (by kernel_rfl) (laid_met os))) ?_
  intro W base args ds gs before hval hW _ _ _ hL _ _
  exact contract H enc W base args ds gs before hval hW hL

theorem said : Rows.MachineDistinctSaid :=
  OpenClaim.holds_of_cond 7 Tryd.f7 rfl rfl rfl rfl rfl rfl rfl ⟨rfl, rfl, rfl, rfl, rfl⟩ rfl rfl rfl rfl rfl (by kernel_rfl) Tryd.func7 (by kernel_rfl)
    (of_decide_eq_true (by kernel_rfl)) (by unfold Func.isWrapper; first | (rw [if_pos (by decide +kernel)]; kernel_rfl) | (rw [if_neg (by decide +kernel)]; exact ⟨rfl, rfl⟩))
    (fun os started H enc _ F => by rw [OpenClaim.pre_eq_preRow]; exact lifted os started H enc F)

theorem plainCard (f : FuncId) (fn : Func) (hf : Tryd.pinned.checked.prog.funcNamed Rows.machineDistinctRow.func = some f) (hfn : Tryd.pinned.checked.prog.funcs[f]? = some fn) :
    false = Tryd.pinned.checked.prog.looks [] ∧ ∀ (j : Nat) t, fn.params[j]? = some t → Tryd.pinned.checked.prog.wantsStandIn t = false := by
  obtain rfl : f = 7 := Option.some.inj ((show Tryd.prog.funcNamed Rows.machineDistinctRow.func = some 7 by kernel_rfl).symm.trans hf) |>.symm
  obtain rfl : fn = Tryd.f7 := (Option.some.inj (Tryd.func7.symm.trans hfn)).symm
  refine ⟨by kernel_rfl, fun j t ht => ?_⟩
  rw [Tryd.params7] at ht
  exact wants_of (ts := #[3, 3, 3, 3]) (by kernel_rfl) ht

/-- the card -/
theorem proved : Rows.MachineDistinctCardSaid :=
  Claim7.holds_tied_plain_at .later [] _ _ _ _ said (fun _ h => by cases h) (by kernel_rfl) (fun _ h => by cases h) machineDistinct_row_tie rfl ⟨rfl, rfl⟩ (by kernel_rfl) rfl plainCard (by kernel_rfl)
end Go.Proofs.YtfmcdageaananaaDoor.machineDistinct
