/-
  MachineRoundTrip holds where what is read is of bulk at most 1048576: whatever the arguments, the call returns true and leaves what it was given as it was; the table that the row lists is tied to the program's text.
  Conditions: none.
-/
import Derived.Test.YtfmcdageaananaaDoorK29
import Derived.Test.YtfmcdageaananaaDoorPvLaw
import Derived.Test.YtfmcdageaananaaDoorPvShape
import Derived.Test.YtfmcdageaananaaDoorCards
import Derived.Test.YtfmcdageaananaaDoorTie
import Derived.ProofKit
import Derived.OpenShut
import Derived.ChangeMaps5
set_option linter.unusedVariables false
namespace Go.Proofs.YtfmcdageaananaaDoor.machineRoundTrip
open Go.Pv Go.ChangeShapes Go.WideShapes Go.ChangeAt Go.RowKit
 
/-- no parameter of a list of types wants a stand-in -/
theorem wants_of {P : Program} {ts : Array TypeId} (h : ts.toList.all (fun t => !P.wantsStandIn t) = true) {j : Nat} {t : TypeId} (ht : ts[j]? = some t) : P.wantsStandIn t = false := by
  rw [List.all_eq_true] at h
  have : t ∈ ts.toList := by
    rw [← Array.getElem?_toList] at ht
    exact List.mem_of_getElem? ht
  simpa using h t this

theorem contract (H : Type) (enc : TypeId × Value → H) (W : World) (base : Nat) (args : Array Value) (ds gs : List (DataW H)) (before : List MemPlace)
    (hval : ∀ (j : Nat) t v, Tryd.f6.params[j]? = some t → args[j]? = some v → Value.okWide Tryd.prog W .any base t v)
    (hW : DataW.Whole enc Tryd.prog Tryd.f6.params.toList Rows.machineRoundTripSpec.vars false W args.toList ds gs before) (hL : laidMetH Tryd.prog Rows.machineRoundTripUptoRow.laid W)
    (hb0 : Rows.uptoSmall H (ds ++ gs) = true) :
    Calls Tryd.prog 6 args W fun e W' => ∃ v, e = .returned v ∧ Rows.machineRoundTripSpec.post enc Tryd.prog Tryd.f6 false true false false W args v W' := by
  have hW' := hW
  obtain ⟨p, q, hA0, hV, rfl, hfz, hnd⟩ := hW
  have hA : DataW.TrodAll enc Tryd.prog W 0 (fun _ => true) true Tryd.f6.params.toList args.toList ds p := hA0
  rw [Tryd.params6] at hA
  obtain ⟨v0, vs0, d0, ds0, p0, q0, e0, f0, g0, tr0, hA0⟩ := trodAll_cons hA
  obtain ⟨v1, vs1, d1, ds1, p1, q1, e1, f1, g1, tr1, hA1⟩ := trodAll_cons hA0
  obtain ⟨ez, rfl, rfl⟩ := trodAll_nil hA1
  subst ez
  subst f1
  subst e1
  subst f0
  obtain rfl : args = #[v0, v1] := by cases args; simp_all
  obtain ⟨n0, rfl, b0⟩ := int_arg Tryd.underlying3 (hval 0 3 v0 (by kernel_rfl) rfl)
  have r0 := has_i64 b0
  obtain ⟨n1, rfl, hd1, _, b1⟩ := Go.ChangeMaps.open_string Tryd.underlying9 (hval 1 9 v1 (by kernel_rfl) rfl) tr1
  obtain ⟨rfl, rfl⟩ := trodVars_none hV
  have bz1 : n1.data.toList.length ≤ 1048576 := by
    have hq := of_decide_eq_true hb0
    simp only [List.cons_append, List.nil_append, Rows.uptoBulkAll] at hq
    rw [hd1] at hq
    simp only [Rows.uptoBulk] at hq
    omega
  have hc : CallW env 6 [.int .i64 n0, .str n1.data.toList] Heap.empty fun v _ => v = .bool true := sRTripL _ _ _ ⟨⟨r0, bz1⟩, rfl⟩
  refine (run_trueW (E := env) envMixed envOk hc W (rs := [.int .i64 n0, .string n1]) (envG hL) (VRs.cons (.int _ _) (VRs.cons (.str _) (VRs.nil _)))).mono fun e W' ⟨he, hb⟩ => ?_
  exact ⟨_, he, post_of_below (tb := 4) laidOut (by kernel_rfl) (by kernel_rfl) Tryd.underlying4 hW' rfl hb rfl rfl rfl⟩

theorem laid_met (os : Os) : laidMetH Tryd.prog Rows.machineRoundTripUptoRow.laid ((laidWorld os).forCall (fun _ _ => 0) ⟨#[], #[.int .i64 0, .string ByteArray.empty], []⟩).memory := by
  have h : laidMet Tryd.prog [("fulling/machine.table", Rows.laid_fulling_machine_table)] ((laidWorld os).forCall (fun _ _ => 0) ⟨#[], #[.int .i64 0, .string ByteArray.empty], []⟩).memory :=
    laidMet_of_run' 8 (by kernel_rfl) (by kernel_rfl)
  show laidMetH Tryd.prog [("fulling/machine.table", Rows.laid_fulling_machine_table)] _
  unfold laidMetH
  rw [noHandles]
  exact h
theorem reads (os : Os) {H : Type} (enc : TypeId × Value → H) : ∃ places, DataW.whole enc Tryd.prog ((laidWorld os).forCall (fun _ _ => 0) ⟨#[], #[.int .i64 0, .string ByteArray.empty], []⟩).memory Tryd.f6.params.toList Rows.machineRoundTripSpec.vars false (#[.int .i64 0, .string ByteArray.empty] : Array Value).toList 8 = some ([.lit (.int .i64 0), .lit (.string [])], [], places) :=
  ⟨[], by kernel_rfl⟩

set_option maxRecDepth 100000 in
theorem lifted (os : Os) (started : os.Started) (H : Type) (enc : TypeId × Value → H) (F : Stop.Interp) :
    ReturnsInHanded {} Tryd.checked os 6 .any ((Rows.OpenSpec.upto Rows.machineRoundTripSpec).preRow enc Tryd.prog Tryd.f6 Rows.machineRoundTripUptoRow.domain false Rows.machineRoundTripUptoRow.laid) (((Rows.OpenSpec.upto Rows.machineRoundTripSpec).at F).post enc Tryd.prog Tryd.f6 false true false false) := by
  obtain ⟨places, hx⟩ := reads os enc
  refine returnsInHanded_of_row (C := Tryd.checked) (s := Rows.OpenSpec.upto Rows.machineRoundTripSpec) own started (by kernel_rfl) Tryd.func6
    (witness_row_atRef (enc := enc) (C := Tryd.checked) false (laidWorld os) #[.int .i64 0, .string ByteArray.empty] rfl (by kernel_rfl) (by kernel_rfl) (by kernel_rfl)
      (OpenSpec.preRow_of_cond 8 hx (by kernel_rfl) (fun k hk => by cases hk; kernel_rfl) (by kernel_rfl) (laid_met os))) ?_
  intro W base args ds gs before hval hW _ hcond _ hL _ _
  exact contract H enc W base args ds gs before hval hW hL (hcond _ rfl)

theorem said : Rows.MachineRoundTripUptoSaid :=
  OpenClaim.holds_of_cond 6 Tryd.f6 rfl rfl rfl rfl rfl rfl rfl ⟨rfl, rfl, rfl, rfl, rfl⟩ rfl rfl rfl rfl rfl (by kernel_rfl) Tryd.func6 (by kernel_rfl)
    (of_decide_eq_true (by kernel_rfl)) (by unfold Func.isWrapper; first | (rw [if_pos (by decide +kernel)]; kernel_rfl) | (rw [if_neg (by decide +kernel)]; exact ⟨rfl, rfl⟩))
    (fun os started H enc _ F => by rw [OpenClaim.pre_eq_preRow]; exact lifted os started H enc F)

theorem plainCard (f : FuncId) (fn : Func) (hf : Tryd.pinned.checked.prog.funcNamed Rows.machineRoundTripUptoRow.func = some f) (hfn : Tryd.pinned.checked.prog.funcs[f]? = some fn) :
    false = Tryd.pinned.checked.prog.looks [] ∧ ∀ (j : Nat) t, fn.params[j]? = some t → Tryd.pinned.checked.prog.wantsStandIn t = false := by
  obtain rfl : f = 6 := Option.some.inj ((show Tryd.prog.funcNamed Rows.machineRoundTripUptoRow.func = some 6 by kernel_rfl).symm.trans hf) |>.symm
  obtain rfl : fn = Tryd.f6 := (Option.some.inj (Tryd.func6.symm.trans hfn)).symm
  refine ⟨by kernel_rfl, fun j t ht => ?_⟩
  rw [Tryd.params6] at ht
  exact wants_of (ts := #[3, 9]) (by kernel_rfl) ht

/-- the card -/
theorem proved : Rows.MachineRoundTripUptoCardSaid :=
  Claim7.holds_tied_plain_at .later [] _ _ _ _ said (fun _ h => by cases h) (by kernel_rfl) (fun _ h => by cases h) machineRoundTripUpto_row_tie rfl ⟨rfl, rfl⟩ (by kernel_rfl) rfl plainCard (by kernel_rfl)
end Go.Proofs.YtfmcdageaananaaDoor.machineRoundTrip
