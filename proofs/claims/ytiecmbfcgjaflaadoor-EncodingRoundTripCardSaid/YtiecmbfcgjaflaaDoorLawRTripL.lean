/-
  EncodingRoundTrip holds: whatever the arguments, the call returns true and leaves what it was given as it was; the table that the row lists is tied to the program's text.
  Conditions: none.
-/
import Derived.Test.YtiecmbfcgjaflaaDoorL30
import Derived.Test.YtiecmbfcgjaflaaDoorPvLaw
import Derived.Test.YtiecmbfcgjaflaaDoorPvShape
import Derived.Test.YtiecmbfcgjaflaaDoorCards
import Derived.Test.YtiecmbfcgjaflaaDoorTie
import Derived.ProofKit
import Derived.OpenShut
import Derived.SizedLaws
set_option linter.unusedVariables false
namespace Go.Proofs.YtiecmbfcgjaflaaDoor.encodingRoundTrip
open Go.Pv Go.ChangeShapes Go.WideShapes Go.ChangeAt Go.RowKit
theorem rb : reachBytes = 140737488351232 := by decide
theorem argL {xs : List IV} (h : OkC Tryd.prog 34 xs) : ∃ l : List Int, xs = [.vslice none 0 l.length 1 (l.map (IV.int .i64))] ∧ ∀ a ∈ l, IntKind.i64.has a := by
  obtain ⟨n, cs, rfl, hn, he⟩ := h.slice_inv Tryd.underlying34
  obtain ⟨l, rfl, rfl, hl⟩ := he.ints Tryd.underlying3
  have e : Tryd.prog.cellsOf 3 = 1 := by kernel_rfl
  exact ⟨l, by rw [e], hl⟩

/-- no parameter of a list of types wants a stand-in -/
theorem wants_of {P : Program} {ts : Array TypeId} (h : ts.toList.all (fun t => !P.wantsStandIn t) = true) {j : Nat} {t : TypeId} (ht : ts[j]? = some t) : P.wantsStandIn t = false := by
  rw [List.all_eq_true] at h
  have : t ∈ ts.toList := by
    rw [← Array.getElem?_toList] at ht
    exact List.mem_of_getElem? ht
  simpa using h t this

theorem contract (H : Type) (enc : TypeId × Value → H) (W : World) (base : Nat) (args : Array Value) (ds gs : List (DataW H)) (before : List MemPlace)
    (hval : ∀ (j : Nat) t v, Tryd.f8.params[j]? = some t → args[j]? = some v → Value.okWide Tryd.prog W .any base t v)
    (hW : DataW.Whole enc Tryd.prog Tryd.f8.params.toList Rows.encodingRoundTripSpec.vars false W args.toList ds gs before) (hL : laidMetH Tryd.prog Rows.encodingRoundTripRow.laid W)
    (hz : (DataW.weightsEach Tryd.prog (Tryd.f8.params.toList ++ (OpenSpec.ofChange Rows.encodingRoundTripSpec).bare.plain.varTypes Tryd.prog) (ds ++ gs)).all (· ≤ reachBytes) = true) :
    Calls Tryd.prog 8 args W fun e W' => ∃ v, e = .returned v ∧ Rows.encodingRoundTripSpec.post enc Tryd.prog Tryd.f8 false true false false W args v W' := by
  have hW' := hW
  obtain ⟨p, q, hA0, hV, rfl, hfz, hnd⟩ := hW
  have hA : DataW.TrodAll enc Tryd.prog W 0 (fun _ => true) true Tryd.f8.params.toList args.toList ds p := hA0
  rw [Tryd.params8] at hA
  obtain ⟨v0, vs0, d0, ds0, p0, q0, e0, f0, g0, tr0, hA0⟩ := trodAll_cons hA
  obtain ⟨ez, rfl, rfl⟩ := trodAll_nil hA0
  subst ez
  subst f0
  obtain rfl : args = #[v0] := by cases args; simp_all
  obtain ⟨xs0, ok0, vr0, sz0⟩ := arg_ok2 (P := Tryd.prog) 8 (by kernel_rfl) (hval 0 34 v0 (by kernel_rfl) rfl) tr0
  obtain ⟨l0, rfl, hl0⟩ := argL ok0
  have w0 := vr0 (.vslice none 0 l0.length 1 (l0.map (IV.int .i64))) (by kernel_rfl)
  obtain ⟨rfl, rfl⟩ := trodVars_none hV
  have bz0 : l0.length * 8 ≤ reachBytes := by
    rcases sz0 _ _ _ _ Tryd.underlying34 rfl with q | ⟨elems, spare, q, q2⟩
    · rw [q]; omega
    · have := sized_slice hz (j := 0) (t := 34) (by kernel_rfl) (congrArg some q) Tryd.underlying34
      rw [show Tryd.prog.bytesOf 3 = 8 by kernel_rfl] at this
      rw [q2]
      exact Nat.le_trans (Nat.mul_le_mul_right _ (Nat.le_add_right _ _)) this
  have hc : CallW env 8 [.vslice none 0 l0.length 1 (l0.map (IV.int .i64))] Heap.empty fun v _ => v = .bool true := sRTripL _ _ _ ⟨l0, ⟨rfl, rfl⟩, ⟨hl0, (by have := Nat.le_trans bz0 (Nat.le_of_eq rb); omega)⟩, rfl⟩
  refine (run_trueW (E := env) envMixed envOk hc W (rs := [v0]) (envG hL) (VRs.cons w0 (VRs.nil _))).mono fun e W' ⟨he, hb⟩ => ?_
  exact ⟨_, he, post_of_below (tb := 4) laidOut (by kernel_rfl) (by kernel_rfl) Tryd.underlying4 hW' rfl hb rfl rfl rfl⟩

theorem laid_met (os : Os) : laidMetH Tryd.prog Rows.encodingRoundTripRow.laid ((laidWorld os).forCall (fun _ _ => 0) ⟨#[], #[.slice none 0 0], []⟩).memory := by
  have h : laidMet Tryd.prog [("fulling/machine.table", Rows.laid_fulling_machine_table)] ((laidWorld os).forCall (fun _ _ => 0) ⟨#[], #[.slice none 0 0], []⟩).memory :=
    laidMet_of_run' 8 (by kernel_rfl) (by kernel_rfl)
  show laidMetH Tryd.prog [("fulling/machine.table", Rows.laid_fulling_machine_table)] _
  unfold laidMetH
  rw [noHandles]
  exact h
theorem reads (os : Os) {H : Type} (enc : TypeId × Value → H) : ∃ places, DataW.whole enc Tryd.prog ((laidWorld os).forCall (fun _ _ => 0) ⟨#[], #[.slice none 0 0], []⟩).memory Tryd.f8.params.toList Rows.encodingRoundTripSpec.vars false (#[.slice none 0 0] : Array Value).toList 8 = some ([.nil], [], places) :=
  ⟨[], by kernel_rfl⟩

set_option maxRecDepth 100000 in
theorem lifted (os : Os) (started : os.Started) (H : Type) (enc : TypeId × Value → H) (F : Stop.Interp) :
    ReturnsInHanded {} Tryd.checked os 8 .any ((OpenSpec.ofChange Rows.encodingRoundTripSpec).preRow enc Tryd.prog Tryd.f8 Rows.encodingRoundTripRow.domain false Rows.encodingRoundTripRow.laid) (((OpenSpec.ofChange Rows.encodingRoundTripSpec).at F).post enc Tryd.prog Tryd.f8 false true false false) := by
  obtain ⟨places, hx⟩ := reads os enc
  refine returnsInHanded_of_row (C := Tryd.checked) (s := OpenSpec.ofChange Rows.encodingRoundTripSpec) own started (by kernel_rfl) Tryd.func8
    (witness_row_atRef (enc := enc) (C := Tryd.checked) false (laidWorld os) #[.slice none 0 0] rfl (by kernel_rfl) (by kernel_rfl) (by kernel_rfl)
      (OpenSpec.preRow_of_cond 8 hx (by kernel_rfl) (fun k hk => by cases hk) (by kernel_rfl) (laid_met os))) ?_
  intro W base args ds gs before hval hW _ _ hz hL _ _
  exact contract H enc W base args ds gs before hval hW hL hz

theorem said : Rows.EncodingRoundTripSaid :=
  OpenClaim.holds_of_cond 8 Tryd.f8 rfl rfl rfl rfl rfl rfl rfl ⟨rfl, rfl, rfl, rfl, rfl⟩ rfl rfl rfl rfl rfl (by kernel_rfl) Tryd.func8 (by kernel_rfl)
    (of_decide_eq_true (by kernel_rfl)) (by unfold Func.isWrapper; first | (rw [if_pos (by decide +kernel)]; kernel_rfl) | (rw [if_neg (by decide +kernel)]; exact ⟨rfl, rfl⟩))
    (fun os started H enc _ F => by rw [OpenClaim.pre_eq_preRow]; exact lifted os started H enc F)

theorem plainCard (f : FuncId) (fn : Func) (hf : Tryd.pinned.checked.prog.funcNamed Rows.encodingRoundTripRow.func = some f) (hfn : Tryd.pinned.checked.prog.funcs[f]? = some fn) :
    false = Tryd.pinned.checked.prog.looks [] ∧ ∀ (j : Nat) t, fn.params[j]? = some t → Tryd.pinned.checked.prog.wantsStandIn t = false := by
  obtain rfl : f = 8 := Option.some.inj ((show Tryd.prog.funcNamed Rows.encodingRoundTripRow.func = some 8 by kernel_rfl).symm.trans hf) |>.symm
  obtain rfl : fn = Tryd.f8 := (Option.some.inj (Tryd.func8.symm.trans hfn)).symm
  refine ⟨by kernel_rfl, fun j t ht => ?_⟩
  rw [Tryd.params8] at ht
  exact wants_of (ts := #[34]) (by kernel_rfl) ht

/-- the card -/
theorem proved : Rows.EncodingRoundTripCardSaid :=
  Claim7.holds_tied_plain_at .later [] _ _ _ _ said (fun _ h => by cases h) (by kernel_rfl) (fun _ h => by cases h) encodingRoundTrip_row_tie rfl ⟨rfl, rfl⟩ (by kernel_rfl) rfl plainCard (by kernel_rfl)
end Go.Proofs.YtiecmbfcgjaflaaDoor.encodingRoundTrip
