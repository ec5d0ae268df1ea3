/-
  MachineText holds where what is read is of bulk at most 1048576: whatever the arguments, the call returns true and leaves what it was given as it was; the table that the row lists is tied to the program's text.
  Conditions: none.
-/
import Derived.Test.YtfmcdageaananaaDoorO29
import Derived.Test.YtfmcdageaananaaDoorPvLaw
import Derived.Test.YtfmcdageaananaaDoorPvShape
import Derived.Test.YtfmcdageaananaaDoorCards
import Derived.Test.YtfmcdageaananaaDoorTie
import Derived.ProofKit
import Derived.OpenShut
import Derived.ChangeMaps5
set_option linter.unusedVariables false
namespace Go.Proofs.YtfmcdageaananaaDoor.machineText
open Go.Pv Go.ChangeShapes Go.WideShapes Go.ChangeAt Go.RowKit
theorem argIn {xs : List IV} (h : OkC Tryd.prog 27 xs) : ∃ z0 z1 z2 z3 z4 : Int, xs = [.int .i64 z0, .int .i64 z1, .int .i64 z2, .int .i64 z3, .int .i64 z4] ∧ IntKind.i64.has z0 ∧ IntKind.i64.has z1 ∧ IntKind.i64.has z2 ∧ IntKind.i64.has z3 ∧ IntKind.i64.has z4 := by
  have h0 := h.struct_inv Tryd.underlying27
  obtain ⟨ys0, zs0, e0, a0, h1⟩ := OkF.cons_inv h0
  obtain ⟨z0, rfl, b0⟩ := a0.int_inv Tryd.underlying3
  obtain ⟨ys1, zs1, e1, a1, h2⟩ := OkF.cons_inv h1
  obtain ⟨z1, rfl, b1⟩ := a1.int_inv Tryd.underlying3
  obtain ⟨ys2, zs2, e2, a2, h3⟩ := OkF.cons_inv h2
  obtain ⟨z2, rfl, b2⟩ := a2.int_inv Tryd.underlying3
  obtain ⟨ys3, zs3, e3, a3, h4⟩ := OkF.cons_inv h3
  obtain ⟨z3, rfl, b3⟩ := a3.int_inv Tryd.underlying3
  obtain ⟨ys4, zs4, e4, a4, h5⟩ := OkF.cons_inv h4
  obtain ⟨z4, rfl, b4⟩ := a4.int_inv Tryd.underlying2
  obtain rfl := OkF.nil_inv h5
  subst e4
  subst e3
  subst e2
  subst e1
  subst e0
  exact ⟨z0, z1, z2, z3, z4, rfl, b0, b1, b2, b3, b4⟩

/-- no parameter of a list of types wants a stand-in -/
theorem wants_of {P : Program} {ts : Array TypeId} (h : ts.toList.all (fun t => !P.wantsStandIn t) = true) {j : Nat} {t : TypeId} (ht : ts[j]? = some t) : P.wantsStandIn t = false := by
  rw [List.all_eq_true] at h
  have : t ∈ ts.toList := by
    rw [← Array.getElem?_toList] at ht
    exact List.mem_of_getElem? ht
  simpa using h t this

theorem contract (H : Type) (enc : TypeId × Value → H) (W : World) (base : Nat) (args : Array Value) (ds gs : List (DataW H)) (before : List MemPlace)
    (hval : ∀ (j : Nat) t v, Tryd.f5.params[j]? = some t → args[j]? = some v → Value.okWide Tryd.prog W .any base t v)
    (hW : DataW.Whole enc Tryd.prog Tryd.f5.params.toList Rows.machineTextSpec.vars false W args.toList ds gs before) (hL : laidMetH Tryd.prog Rows.machineTextUptoRow.laid W)
    (hb0 : Rows.uptoSmall H (ds ++ gs) = true) :
    Calls Tryd.prog 5 args W fun e W' => ∃ v, e = .returned v ∧ Rows.machineTextSpec.post enc Tryd.prog Tryd.f5 false true false false W args v W' := by
  have hW' := hW
  obtain ⟨p, q, hA0, hV, rfl, hfz, hnd⟩ := hW
  have hA : DataW.TrodAll enc Tryd.prog W 0 (fun _ => true) true Tryd.f5.params.toList args.toList ds p := hA0
  rw [Tryd.params5] at hA
  obtain ⟨v0, vs0, d0, ds0, p0, q0, e0, f0, g0, tr0, hA0⟩ := trodAll_cons hA
  obtain ⟨v1, vs1, d1, ds1, p1, q1, e1, f1, g1, tr1, hA1⟩ := trodAll_cons hA0
  obtain ⟨v2, vs2, d2, ds2, p2, q2, e2, f2, g2, tr2, hA2⟩ := trodAll_cons hA1
  obtain ⟨v3, vs3, d3, ds3, p3, q3, e3, f3, g3, tr3, hA3⟩ := trodAll_cons hA2
  obtain ⟨v4, vs4, d4, ds4, p4, q4, e4, f4, g4, tr4, hA4⟩ := trodAll_cons hA3
  obtain ⟨v5, vs5, d5, ds5, p5, q5, e5, f5, g5, tr5, hA5⟩ := trodAll_cons hA4
  obtain ⟨ez, rfl, rfl⟩ := trodAll_nil hA5
  subst ez
  subst f5
  subst e5
  subst f4
  subst e4
  subst f3
  subst e3
  subst f2
  subst e2
  subst f1
  subst e1
  subst f0
  obtain rfl : args = #[v0, v1, v2, v3, v4, v5] := by cases args; simp_all
  obtain ⟨xs0, ok0, vr0⟩ := arg_ok (P := Tryd.prog) 8 (by kernel_rfl) (hval 0 27 v0 (by kernel_rfl) rfl) tr0
  obtain ⟨o0, a0, b0, c0, k0, rfl, bo0, ba0, bb0, bc0, bk0⟩ := argIn ok0
  have w0 := vr0 (.agg [.int .i64 o0, .int .i64 a0, .int .i64 b0, .int .i64 c0, .int .i64 k0]) (by kernel_rfl)
  obtain ⟨n1, rfl, b1⟩ := int_arg Tryd.underlying3 (hval 1 3 v1 (by kernel_rfl) rfl)
  have r1 := has_i64 b1
  obtain ⟨n2, rfl, b2⟩ := int_arg Tryd.underlying3 (hval 2 3 v2 (by kernel_rfl) rfl)
  have r2 := has_i64 b2
  obtain ⟨n3, rfl, b3⟩ := int_arg Tryd.underlying3 (hval 3 3 v3 (by kernel_rfl) rfl)
  have r3 := has_i64 b3
  obtain ⟨n4, rfl, hd4, _, b4⟩ := Go.ChangeMaps.open_string Tryd.underlying9 (hval 4 9 v4 (by kernel_rfl) rfl) tr4
  obtain ⟨n5, rfl, b5⟩ := int_arg Tryd.underlying3 (hval 5 3 v5 (by kernel_rfl) rfl)
  have r5 := has_i64 b5
  obtain ⟨rfl, rfl⟩ := trodVars_none hV
  have bz4 : n4.data.toList.length ≤ 1048576 := by
    have hq := of_decide_eq_true hb0
    simp only [List.cons_append, List.nil_append, Rows.uptoBulkAll] at hq
    rw [hd4] at hq
    simp only [Rows.uptoBulk] at hq
    omega
  have hc : CallW env 5 [.agg [.int .i64 o0, .int .i64 a0, .int .i64 b0, .int .i64 c0, .int .i64 k0], .int .i64 n1, .int .i64 n2, .int .i64 n3, .str n4.data.toList, .int .i64 n5] Heap.empty fun v _ => v = .bool true := sTextL _ _ _ ⟨⟨r1, bz4⟩, rfl⟩
  refine (run_trueW (E := env) envMixed envOk hc W (rs := [v0, .int .i64 n1, .int .i64 n2, .int .i64 n3, .string n4, .int .i64 n5]) (envG hL) (VRs.cons w0 (VRs.cons (.int _ _) (VRs.cons (.int _ _) (VRs.cons (.int _ _) (VRs.cons (.str _) (VRs.cons (.int _ _) (VRs.nil _)))))))).mono fun e W' ⟨he, hb⟩ => ?_
  exact ⟨_, he, post_of_below (tb := 4) laidOut (by kernel_rfl) (by kernel_rfl) Tryd.underlying4 hW' rfl hb rfl rfl rfl⟩

theorem laid_met (os : Os) : laidMetH Tryd.prog Rows.machineTextUptoRow.laid ((laidWorld os).forCall (fun _ _ => 0) ⟨#[], #[.agg #[.int .i64 0, .int .i64 0, .int .i64 0, .int .i64 0, .int .i64 0], .int .i64 0, .int .i64 0, .int .i64 0, .string ByteArray.empty, .int .i64 0], []⟩).memory := by
  have h : laidMet Tryd.prog [("fulling/machine.table", Rows.laid_fulling_machine_table)] ((laidWorld os).forCall (fun _ _ => 0) ⟨#[], #[.agg #[.int .i64 0, .int .i64 0, .int .i64 0, .int .i64 0, .int .i64 0], .int .i64 0, .int .i64 0, .int .i64 0, .string ByteArray.empty, .int .i64 0], []⟩).memory :=
    laidMet_of_run' 8 (by kernel_rfl) (by kernel_rfl)
  show laidMetH Tryd.prog [("fulling/machine.table", Rows.laid_fulling_machine_table)] _
  unfold laidMetH
  rw [noHandles]
  exact h
theorem reads (os : Os) {H : Type} (enc : TypeId × Value → H) : ∃ places, DataW.whole enc Tryd.prog ((laidWorld os).forCall (fun _ _ => 0) ⟨#[], #[.agg #[.int .i64 0, .int .i64 0, .int .i64 0, .int .i64 0, .int .i64 0], .int .i64 0, .int .i64 0, .int .i64 0, .string ByteArray.empty, .int .i64 0], []⟩).memory Tryd.f5.params.toList Rows.machineTextSpec.vars false (#[.agg #[.int .i64 0, .int .i64 0, .int .i64 0, .int .i64 0, .int .i64 0], .int .i64 0, .int .i64 0, .int .i64 0, .string ByteArray.empty, .int .i64 0] : Array Value).toList 8 = some ([.agg [.lit (.int .i64 0), .lit (.int .i64 0), .lit (.int .i64 0), .lit (.int .i64 0), .lit (.int .i64 0)], .lit (.int .i64 0), .lit (.int .i64 0), .lit (.int .i64 0), .lit (.string []), .lit (.int .i64 0)], [], places) :=
  ⟨[], by kernel_rfl⟩

set_option maxRecDepth 100000 in
theorem lifted (os : Os) (started : os.Started) (H : Type) (enc : TypeId × Value → H) (F : Stop.Interp) :
    ReturnsInHanded {} Tryd.checked os 5 .any ((Rows.OpenSpec.upto Rows.machineTextSpec).preRow enc Tryd.prog Tryd.f5 Rows.machineTextUptoRow.domain false Rows.machineTextUptoRow.laid) (((Rows.OpenSpec.upto Rows.machineTextSpec).at F).post enc Tryd.prog Tryd.f5 false true false false) := by
  obtain ⟨places, hx⟩ := reads os enc
  refine returnsInHanded_of_row (C := Tryd.checked) (s := Rows.OpenSpec.upto Rows.machineTextSpec) own started (by kernel_rfl) Tryd.func5
    (witness_row_atRef (enc := enc) (C := Tryd.checked) false (laidWorld os) #[.agg #[.int .i64 0, .int .i64 0, .int .i64 0, .int .i64 0, .int .i64 0], .int .i64 0, .int .i64 0, .int .i64 0, .string ByteArray.empty, .int .i64 0] rfl (by kernel_rfl) (by kernel_rfl) (by kernel_rfl)
      (OpenSpec.preRow_of_cond 8 hx (by kernel_rfl) (fun k hk => by cases hk; kernel_rfl) (by kernel_rfl) (laid_met os))) ?_
  intro W base args ds gs before hval hW _ hcond _ hL _ _
  exact contract H enc W base args ds gs before hval hW hL (hcond _ rfl)

theorem said : Rows.MachineTextUptoSaid :=
  OpenClaim.holds_of_cond 5 Tryd.f5 rfl rfl rfl rfl rfl rfl rfl ⟨rfl, rfl, rfl, rfl, rfl⟩ rfl rfl rfl rfl rfl (by kernel_rfl) Tryd.func5 (by kernel_rfl)
    (of_decide_eq_true (by kernel_rfl)) (by unfold Func.isWrapper; first | (rw [if_pos (by decide +kernel)]; kernel_rfl) | (rw [if_neg (by decide +kernel)]; exact ⟨rfl, rfl⟩))
    (fun os started H enc _ F => by rw [OpenClaim.pre_eq_preRow]; exact lifted os started H enc F)

theorem plainCard (f : FuncId) (fn : Func) (hf : Tryd.pinned.checked.prog.funcNamed Rows.machineTextUptoRow.func = some f) (hfn : Tryd.pinned.checked.prog.funcs[f]? = some fn) :
    false = Tryd.pinned.checked.prog.looks [] ∧ ∀ (j : Nat) t, fn.params[j]? = some t → Tryd.pinned.checked.prog.wantsStandIn t = false := by
  obtain rfl : f = 5 := Option.some.inj ((show Tryd.prog.funcNamed Rows.machineTextUptoRow.func = some 5 by kernel_rfl).symm.trans hf) |>.symm
  obtain rfl : fn = Tryd.f5 := (Option.some.inj (Tryd.func5.symm.trans hfn)).symm
  refine ⟨by kernel_rfl, fun j t ht => ?_⟩
  rw [Tryd.params5] at ht
  exact wants_of (ts := #[27, 3, 3, 3, 9, 3]) (by kernel_rfl) ht

/-- the card -/
theorem proved : Rows.MachineTextUptoCardSaid :=
  Claim7.holds_tied_plain_at .later [] _ _ _ _ said (fun _ h => by cases h) (by kernel_rfl) (fun _ h => by cases h) machineTextUpto_row_tie rfl ⟨rfl, rfl⟩ (by kernel_rfl) rfl plainCard (by kernel_rfl)
end Go.Proofs.YtfmcdageaananaaDoor.machineText
