/-
  EncodingEncode holds: whatever the arguments, the call returns true and leaves what it was given as it was; the table that the row lists is tied to the program's text.
  Conditions: none.
-/
import Derived.Test.YtiecmbfcgjaflaaDoorJ30
import Derived.Test.YtiecmbfcgjaflaaDoorPvLaw
import Derived.Test.YtiecmbfcgjaflaaDoorPvShape
import Derived.Test.YtiecmbfcgjaflaaDoorCards
import Derived.Test.YtiecmbfcgjaflaaDoorTie
import Derived.ProofKit
import Derived.OpenShut
import Derived.SizedLaws
set_option linter.unusedVariables false
namespace Go.Proofs.YtiecmbfcgjaflaaDoor.encodingEncode
open Go.Pv Go.ChangeShapes Go.WideShapes Go.ChangeAt Go.RowKit
theorem argIn {xs : List IV} (h : OkC Tryd.prog 27 xs) : ∃ z0 z1 z2 z3 z4 : Int, xs = [.int .i64 z0, .int .i64 z1, .int .i64 z2, .int .i64 z3, .int .i64 z4] ∧ IntKind.i64.has z0 ∧ IntKind.i64.has z1 ∧ IntKind.i64.has z2 ∧ IntKind.i64.has z3 ∧ IntKind.i64.has z4 := by
  have h0 := h.struct_inv Tryd.underlying27
  obtain ⟨ys0, zs0, e0, a0, h1⟩ := OkF.cons_inv h0
  obtain ⟨z0, rfl, b0⟩ := a0.int_inv Tryd.underlying3
  obtain ⟨ys1, zs1, e1, a1, h2⟩ := OkF.cons_inv h1
  obtain ⟨z1, rfl, b1⟩ := a1.int_inv Tryd.underlying3
  obtain ⟨ys2, zs2, e2, a2, h3⟩ := OkF.cons_inv h2
  obtain ⟨z2, rfl, b2⟩ := a2.int_inv Tryd.underlying3
  obtain ⟨ys3, zs3, e3, a3, h4⟩ := OkF.cons_inv h3
  obtain ⟨z3, rfl, b3⟩ := a3.int_inv Tryd.underlying3
  obtain ⟨ys4, zs4, e4, a4, h5⟩ := OkF.cons_inv h4
  obtain ⟨z4, rfl, b4⟩ := a4.int_inv Tryd.underlying2
  obtain rfl := OkF.nil_inv h5
  subst e4
  subst e3
  subst e2
  subst e1
  subst e0
  exact ⟨z0, z1, z2, z3, z4, rfl, b0, b1, b2, b3, b4⟩
theorem rb : reachBytes = 140737488351232 := by decide
theorem argIns {xs : List IV} (h : OkC Tryd.prog 33 xs) : ∃ l : List Go.M29.In, xs = [.vslice none 0 l.length 5 (l.flatMap cIns)] := by
  obtain ⟨n, cs, rfl, hn, he⟩ := h.slice_inv Tryd.underlying33
  obtain ⟨l, rfl, rfl, _⟩ := he.list (c := cIns) (good := fun _ => True) fun ys hy => by
    obtain ⟨a, b, c, d, e, rfl, _⟩ := argIn hy
    exact ⟨⟨a, b, c, d, e⟩, rfl, trivial⟩
  have e : Tryd.prog.cellsOf 27 = 5 := by kernel_rfl
  exact ⟨l, by rw [e]⟩
theorem argL {xs : List IV} (h : OkC Tryd.prog 34 xs) : ∃ l : List Int, xs = [.vslice none 0 l.length 1 (l.map (IV.int .i64))] ∧ ∀ a ∈ l, IntKind.i64.has a := by
  obtain ⟨n, cs, rfl, hn, he⟩ := h.slice_inv Tryd.underlying34
  obtain ⟨l, rfl, rfl, hl⟩ := he.ints Tryd.underlying3
  have e : Tryd.prog.cellsOf 3 = 1 := by kernel_rfl
  exact ⟨l, by rw [e], hl⟩

/-- no parameter of a list of types wants a stand-in -/
theorem wants_of {P : Program} {ts : Array TypeId} (h : ts.toList.all (fun t => !P.wantsStandIn t) = true) {j : Nat} {t : TypeId} (ht : ts[j]? = some t) : P.wantsStandIn t = false := by
  rw [List.all_eq_true] at h
  have : t ∈ ts.toList := by
    rw [← Array.getElem?_toList] at ht
    exact List.mem_of_getElem? ht
  simpa using h t this

theorem contract (H : Type) (enc : TypeId × Value → H) (W : World) (base : Nat) (args : Array Value) (ds gs : List (DataW H)) (before : List MemPlace)
    (hval : ∀ (j : Nat) t v, Tryd.f4.params[j]? = some t → args[j]? = some v → Value.okWide Tryd.prog W .any base t v)
    (hW : DataW.Whole enc Tryd.prog Tryd.f4.params.toList Rows.encodingEncodeSpec.vars false W args.toList ds gs before) (hL : laidMetH Tryd.prog Rows.encodingEncodeRow.laid W)
    (hz : (DataW.weightsEach Tryd.prog (Tryd.f4.params.toList ++ (OpenSpec.ofChange Rows.encodingEncodeSpec).bare.plain.varTypes Tryd.prog) (ds ++ gs)).all (· ≤ reachBytes) = true) :
    Calls Tryd.prog 4 args W fun e W' => ∃ v, e = .returned v ∧ Rows.encodingEncodeSpec.post enc Tryd.prog Tryd.f4 false true false false W args v W' := by
  have hW' := hW
  obtain ⟨p, q, hA0, hV, rfl, hfz, hnd⟩ := hW
  have hA : DataW.TrodAll enc Tryd.prog W 0 (fun _ => true) true Tryd.f4.params.toList args.toList ds p := hA0
  rw [Tryd.params4] at hA
  obtain ⟨v0, vs0, d0, ds0, p0, q0, e0, f0, g0, tr0, hA0⟩ := trodAll_cons hA
  obtain ⟨v1, vs1, d1, ds1, p1, q1, e1, f1, g1, tr1, hA1⟩ := trodAll_cons hA0
  obtain ⟨ez, rfl, rfl⟩ := trodAll_nil hA1
  subst ez
  subst f1
  subst e1
  subst f0
  obtain rfl : args = #[v0, v1] := by cases args; simp_all
  obtain ⟨xs0, ok0, vr0, sz0⟩ := arg_ok2 (P := Tryd.prog) 8 (by kernel_rfl) (hval 0 33 v0 (by kernel_rfl) rfl) tr0
  obtain ⟨l0, rfl⟩ := argIns ok0
  have w0 := vr0 (.vslice none 0 l0.length 5 (l0.flatMap cIns)) (by kernel_rfl)
  obtain ⟨xs1, ok1, vr1, sz1⟩ := arg_ok2 (P := Tryd.prog) 8 (by kernel_rfl) (hval 1 34 v1 (by kernel_rfl) rfl) tr1
  obtain ⟨l1, rfl, hl1⟩ := argL ok1
  have w1 := vr1 (.vslice none 0 l1.length 1 (l1.map (IV.int .i64))) (by kernel_rfl)
  obtain ⟨rfl, rfl⟩ := trodVars_none hV
  have bz0 : l0.length * 40 ≤ reachBytes := by
    rcases sz0 _ _ _ _ Tryd.underlying33 rfl with q | ⟨elems, spare, q, q2⟩
    · rw [q]; omega
    · have := sized_slice hz (j := 0) (t := 33) (by kernel_rfl) (congrArg some q) Tryd.underlying33
      rw [show Tryd.prog.bytesOf 27 = 40 by kernel_rfl] at this
      rw [q2]
      exact Nat.le_trans (Nat.mul_le_mul_right _ (Nat.le_add_right _ _)) this
  have bz1 : l1.length * 8 ≤ reachBytes := by
    rcases sz1 _ _ _ _ Tryd.underlying34 rfl with q | ⟨elems, spare, q, q2⟩
    · rw [q]; omega
    · have := sized_slice hz (j := 1) (t := 34) (by kernel_rfl) (congrArg some q) Tryd.underlying34
      rw [show Tryd.prog.bytesOf 3 = 8 by kernel_rfl] at this
      rw [q2]
      exact Nat.le_trans (Nat.mul_le_mul_right _ (Nat.le_add_right _ _)) this
  have hc : CallW env 4 [.vslice none 0 l0.length 5 (l0.flatMap cIns), .vslice none 0 l1.length 1 (l1.map (IV.int .i64))] Heap.empty fun v _ => v = .bool true := sEncL _ _ _ ⟨l0, l1, ⟨rfl, rfl⟩, ⟨rfl, rfl⟩, ⟨Nat.le_trans bz0 (Nat.le_of_eq rb), (by have := Nat.le_trans bz1 (Nat.le_of_eq rb); omega)⟩, rfl⟩
  refine (run_trueW (E := env) envMixed envOk hc W (rs := [v0, v1]) (envG hL) (VRs.cons w0 (VRs.cons w1 (VRs.nil _)))).mono fun e W' ⟨he, hb⟩ => ?_
  exact ⟨_, he, post_of_below (tb := 4) laidOut (by kernel_rfl) (by kernel_rfl) Tryd.underlying4 hW' rfl hb rfl rfl rfl⟩

theorem laid_met (os : Os) : laidMetH Tryd.prog Rows.encodingEncodeRow.laid ((laidWorld os).forCall (fun _ _ => 0) ⟨#[], #[.slice none 0 0, .slice none 0 0], []⟩).memory := by
  have h : laidMet Tryd.prog [("fulling/machine.table", Rows.laid_fulling_machine_table)] ((laidWorld os).forCall (fun _ _ => 0) ⟨#[], #[.slice none 0 0, .slice none 0 0], []⟩).memory :=
    laidMet_of_run' 8 (by kernel_rfl) (by kernel_rfl)
  show laidMetH Tryd.prog [("fulling/machine.table", Rows.laid_fulling_machine_table)] _
  unfold laidMetH
  rw [noHandles]
  exact h
theorem reads (os : Os) {H : Type} (enc : TypeId × Value → H) : ∃ places, DataW.whole enc Tryd.prog ((laidWorld os).forCall (fun _ _ => 0) ⟨#[], #[.slice none 0 0, .slice none 0 0], []⟩).memory Tryd.f4.params.toList Rows.encodingEncodeSpec.vars false (#[.slice none 0 0, .slice none 0 0] : Array Value).toList 8 = some ([.nil, .nil], [], places) :=
  ⟨[], by kernel_rfl⟩

set_option maxRecDepth 100000 in
theorem lifted (os : Os) (started : os.Started) (H : Type) (enc : TypeId × Value → H) (F : Stop.Interp) :
    ReturnsInHanded {} Tryd.checked os 4 .any ((OpenSpec.ofChange Rows.encodingEncodeSpec).preRow enc Tryd.prog Tryd.f4 Rows.encodingEncodeRow.domain false Rows.encodingEncodeRow.laid) (((OpenSpec.ofChange Rows.encodingEncodeSpec).at F).post enc Tryd.prog Tryd.f4 false true false false) := by
  obtain ⟨places, hx⟩ := reads os enc
  refine returnsInHanded_of_row (C := Tryd.checked) (s := OpenSpec.ofChange Rows.encodingEncodeSpec) own started (by kernel_rfl) Tryd.func4
    (witness_row_atRef (enc := enc) (C := Tryd.checked) false (laidWorld os) #[.slice none 0 0, .slice none 0 0] rfl (by kernel_rfl) (by kernel_rfl) (by kernel_rfl)
      (OpenSpec.preRow_of_cond 8 hx (by kernel_rfl) (fun k hk => by cases hk) (by kernel_rfl) (laid_met os))) ?_
  intro W base args ds gs before hval hW _ _ hz hL _ _
  exact contract H enc W base args ds gs before hval hW hL hz

theorem said : Rows.EncodingEncodeSaid :=
  OpenClaim.holds_of_cond 4 Tryd.f4 rfl rfl rfl rfl rfl rfl rfl ⟨rfl, rfl, rfl, rfl, rfl⟩ rfl rfl rfl rfl rfl (by kernel_rfl) Tryd.func4 (by kernel_rfl)
    (of_decide_eq_true (by kernel_rfl)) (by unfold Func.isWrapper; first | (rw [if_pos (by decide +kernel)]; kernel_rfl) | (rw [if_neg (by decide +kernel)]; exact ⟨rfl, rfl⟩))
    (fun os started H enc _ F => by rw [OpenClaim.pre_eq_preRow]; exact lifted os started H enc F)

theorem plainCard (f : FuncId) (fn : Func) (hf : Tryd.pinned.checked.prog.funcNamed Rows.encodingEncodeRow.func = some f) (hfn : Tryd.pinned.checked.prog.funcs[f]? = some fn) :
    false = Tryd.pinned.checked.prog.looks [] ∧ ∀ (j : Nat) t, fn.params[j]? = some t → Tryd.pinned.checked.prog.wantsStandIn t = false := by
  obtain rfl : f = 4 := Option.some.inj ((show Tryd.prog.funcNamed Rows.encodingEncodeRow.func = some 4 by kernel_rfl).symm.trans hf) |>.symm
  obtain rfl : fn = Tryd.f4 := (Option.some.inj (Tryd.func4.symm.trans hfn)).symm
  refine ⟨by kernel_rfl, fun j t ht => ?_⟩
  rw [Tryd.params4] at ht
  exact wants_of (ts := #[33, 34]) (by kernel_rfl) ht

/-- the card -/
theorem proved : Rows.EncodingEncodeCardSaid :=
  Claim7.holds_tied_plain_at .later [] _ _ _ _ said (fun _ h => by cases h) (by kernel_rfl) (fun _ h => by cases h) encodingEncode_row_tie rfl ⟨rfl, rfl⟩ (by kernel_rfl) rfl plainCard (by kernel_rfl)
end Go.Proofs.YtiecmbfcgjaflaaDoor.encodingEncode
