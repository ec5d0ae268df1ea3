import Derived.Test.YtlenjfbmpekabaaDoorPD31
import Derived.Test.YtlenjfbmpekabaaDoorPvLaw
import Derived.Test.YtlenjfbmpekabaaDoorPvShape
import Derived.Test.YtlenjfbmpekabaaDoorCards
import Derived.Test.YtlenjfbmpekabaaDoorTie
import Derived.ProofKit
import Derived.OpenShut
import Derived.SizedLaws
set_option linter.unusedVariables false
namespace Go.Proofs.YtlenjfbmpekabaaDoor.cPUSteps
open Go.Pv Go.ChangeShapes Go.WideShapes Go.ChangeAt Go.RowKit
theorem rb : reachBytes = 140737488351232 := by decide
theorem u32has {n : Int} (h : IntKind.u32.has n) : Go.M30.u32b n := by
 have : 0 <= n /\ n <= 4294967295 := by simpa [IntKind.has, IntKind.min, IntKind.max, IntKind.bits, IntKind.signed] using h
 exact ⟨this.1, by omega⟩
theorem argW {xs : List IV} (h : OkC Tryd.prog 22 xs) : ∃ l : List Int, xs = [.vslice none 0 l.length 1 (l.map (IV.int .u32))] /\ (∀ a ∈ l, Go.M30.u32b a) := by
 obtain ⟨n, cs, rfl, hn, he⟩ := h.slice_inv Tryd.underlying22
 obtain ⟨l, rfl, rfl, hl⟩ := he.ints Tryd.underlying77
 have e : Tryd.prog.cellsOf 77 = 1 := by kernel_rfl
 exact ⟨l, by rw [e], fun a ha => u32has (hl a ha)⟩
theorem argL {xs : List IV} (h : OkC Tryd.prog 23 xs) : ∃ l : List Int, xs = [.vslice none 0 l.length 1 (l.map (IV.int .i64))] /\ ∀ a ∈ l, -9223372036854775808 <= a /\ a <= 9223372036854775807 := by
 obtain ⟨n, cs, rfl, hn, he⟩ := h.slice_inv Tryd.underlying23
 obtain ⟨l, rfl, rfl, hl⟩ := he.ints Tryd.underlying3
 have e : Tryd.prog.cellsOf 3 = 1 := by kernel_rfl
 exact ⟨l, by rw [e], fun a ha => by simpa [IntKind.has, IntKind.min, IntKind.max, IntKind.bits, IntKind.signed] using hl a ha⟩
theorem argL64 {xs : List IV} (h : OkC Tryd.prog 32 xs) : ∃ l : List Int, xs = [.vslice none 0 l.length 1 (l.map (IV.int .i64))] /\ ∀ a ∈ l, -9223372036854775808 <= a /\ a <= 9223372036854775807 := by
 obtain ⟨n, cs, rfl, hn, he⟩ := h.slice_inv Tryd.underlying32
 obtain ⟨l, rfl, rfl, hl⟩ := he.ints Tryd.underlying2
 have e : Tryd.prog.cellsOf 2 = 1 := by kernel_rfl
 exact ⟨l, by rw [e], fun a ha => by simpa [IntKind.has, IntKind.min, IntKind.max, IntKind.bits, IntKind.signed] using hl a ha⟩
theorem argB {xs : List IV} (h : OkC Tryd.prog 25 xs) : ∃ w e p s a : List Int, xs = [.vslice none 0 w.length 1 (w.map (IV.int .u32)), .vslice none 0 e.length 1 (e.map (IV.int .i64)), .vslice none 0 p.length 1 (p.map (IV.int .i64)), .vslice none 0 s.length 1 (s.map (IV.int .i64)), .vslice none 0 a.length 1 (a.map (IV.int .i64))] /\ (∀ x ∈ w, Go.M30.u32b x) := by
 have h0 := h.struct_inv Tryd.underlying25
 obtain ⟨ys0, zs0, e0, a0, h1⟩ := OkF.cons_inv h0
 obtain ⟨w, rfl, hw⟩ := argW a0
 obtain ⟨ys1, zs1, e1, a1, h2⟩ := OkF.cons_inv h1
 obtain ⟨e, rfl, he⟩ := argL a1
 obtain ⟨ys2, zs2, e2, a2, h3⟩ := OkF.cons_inv h2
 obtain ⟨p, rfl, hp⟩ := argL a2
 obtain ⟨ys3, zs3, e3, a3, h4⟩ := OkF.cons_inv h3
 obtain ⟨s, rfl, hs⟩ := argL a3
 obtain ⟨ys4, zs4, e4, a4, h5⟩ := OkF.cons_inv h4
 obtain ⟨a, rfl, ha⟩ := argL a4
 obtain rfl := OkF.nil_inv h5
 subst e4
 subst e3
 subst e2
 subst e1
 subst e0
 exact ⟨w, e, p, s, a, rfl, hw⟩
theorem wants_of {P : Program} {ts : Array TypeId} (h : ts.toList.all (fun t => !P.wantsStandIn t) = true) {j : Nat} {t : TypeId} (ht : ts[j]? = some t) : P.wantsStandIn t = false := by
 rw [List.all_eq_true] at h
 have : t ∈ ts.toList := by
  rw [<- Array.getElem?_toList] at ht
  exact List.mem_of_getElem? ht
 simpa using h t this
set_option maxRecDepth 100000 in
theorem contract (H : Type) (enc : TypeId × Value -> H) (W : World) (base : Nat) (args : Array Value) (ds gs : List (DataW H)) (before : List MemPlace)
  (hval : ∀ (j : Nat) t v, Tryd.f9.params[j]? = some t -> args[j]? = some v -> Value.okWide Tryd.prog W .any base t v)
  (hW : DataW.Whole enc Tryd.prog Tryd.f9.params.toList Rows.cPUStepsSpec.vars false W args.toList ds gs before) (hL : laidMetH Tryd.prog Rows.cPUStepsRow.laid W)
  (hz : (DataW.weightsEach Tryd.prog (Tryd.f9.params.toList ++ (OpenSpec.ofChange Rows.cPUStepsSpec).bare.plain.varTypes Tryd.prog) (ds ++ gs)).all (· <= reachBytes) = true) :
  Calls Tryd.prog 9 args W fun e W' => ∃ v, e = .returned v /\ Rows.cPUStepsSpec.post enc Tryd.prog Tryd.f9 false true false false W args v W' := by
 have hW' := hW
 obtain ⟨p, q, hA0, hV, rfl, hfz, hnd⟩ := hW
 have hA : DataW.TrodAll enc Tryd.prog W 0 (fun _ => true) true Tryd.f9.params.toList args.toList ds p := hA0
 rw [Tryd.params9] at hA
 obtain ⟨v0, vs0, d0, ds0, p0, q0, e0, f0, g0, tr0, hA0⟩ := trodAll_cons hA
 obtain ⟨v1, vs1, d1, ds1, p1, q1, e1, f1, g1, tr1, hA1⟩ := trodAll_cons hA0
 obtain ⟨v2, vs2, d2, ds2, p2, q2, e2, f2, g2, tr2, hA2⟩ := trodAll_cons hA1
 obtain ⟨v3, vs3, d3, ds3, p3, q3, e3, f3, g3, tr3, hA3⟩ := trodAll_cons hA2
 obtain ⟨v4, vs4, d4, ds4, p4, q4, e4, f4, g4, tr4, hA4⟩ := trodAll_cons hA3
 obtain ⟨v5, vs5, d5, ds5, p5, q5, e5, f5, g5, tr5, hA5⟩ := trodAll_cons hA4
 obtain ⟨ez, rfl, rfl⟩ := trodAll_nil hA5
 subst ez
 subst f5
 subst e5
 subst f4
 subst e4
 subst f3
 subst e3
 subst f2
 subst e2
 subst f1
 subst e1
 subst f0
 obtain rfl : args = #[v0, v1, v2, v3, v4, v5] := by cases args; simp_all
 obtain ⟨xs0, ok0, vr0, sz0⟩ := arg_ok2 (P := Tryd.prog) 8 (by kernel_rfl) (hval 0 23 v0 (by kernel_rfl) rfl) tr0
 obtain ⟨l0, rfl, hl0⟩ := argL ok0
 have w0 := vr0 (.vslice none 0 l0.length 1 (l0.map (IV.int .i64))) (by kernel_rfl)
 obtain ⟨n1, rfl, b1⟩ := int_arg Tryd.underlying3 (hval 1 3 v1 (by kernel_rfl) rfl)
 have r1 := has_i64 b1
 obtain ⟨n2, rfl, b2⟩ := int_arg Tryd.underlying3 (hval 2 3 v2 (by kernel_rfl) rfl)
 have r2 := has_i64 b2
 obtain ⟨n3, rfl, b3⟩ := int_arg Tryd.underlying3 (hval 3 3 v3 (by kernel_rfl) rfl)
 have r3 := has_i64 b3
 obtain ⟨n4, rfl, b4⟩ := int_arg Tryd.underlying2 (hval 4 2 v4 (by kernel_rfl) rfl)
 have r4 := has_i64 b4
 obtain ⟨n5, rfl, b5⟩ := int_arg Tryd.underlying3 (hval 5 3 v5 (by kernel_rfl) rfl)
 have r5 := has_i64 b5
 obtain ⟨rfl, rfl⟩ := trodVars_none hV
 have bz0 : l0.length * 8 <= reachBytes := by
  rcases sz0 _ _ _ _ Tryd.underlying23 rfl with q | ⟨elems, spare, q, q2⟩
  ·rw [q]; omega
  ·have := sized_slice hz (j := 0) (t := 23) (by kernel_rfl) (congrArg some q) Tryd.underlying23
   first | rw [show Tryd.prog.bytesOf 3 = 8 by kernel_rfl] at this | rw [show Tryd.checked.prog.bytesOf 3 = 8 by kernel_rfl] at this
   rw [q2]
   exact Nat.le_trans (Nat.mul_le_mul_right _ (Nat.le_add_right _ _)) this
 have hc : CallW env 9 [.vslice none 0 l0.length 1 (l0.map (IV.int .i64)), .int .i64 n1, .int .i64 n2, .int .i64 n3, .int .i64 n4, .int .i64 n5] Heap.empty fun v _ => v = .bool true := sLSteps _ _ _ ⟨l0, ⟨rfl, rfl⟩, ⟨(by have := Nat.le_trans bz0 (Nat.le_of_eq rb); omega), hl0⟩, r4, rfl⟩
 refine (run_trueW (E := env) envMixed envOk hc W (rs := [v0, .int .i64 n1, .int .i64 n2, .int .i64 n3, .int .i64 n4, .int .i64 n5]) (envG hL) (VRs.cons w0 (VRs.cons (.int _ _) (VRs.cons (.int _ _) (VRs.cons (.int _ _) (VRs.cons (.int _ _) (VRs.cons (.int _ _) (VRs.nil _)))))))).mono fun e W' ⟨he, hb⟩ => ?_
 exact ⟨_, he, post_of_below (tb := 4) laidOut (by kernel_rfl) (by kernel_rfl) Tryd.underlying4 hW' rfl hb rfl rfl rfl⟩
theorem laid_met (os : Os) : laidMetH Tryd.prog Rows.cPUStepsRow.laid ((laidWorld os).forCall (fun _ _ => 0) ⟨#[], #[.slice none 0 0, .int .i64 0, .int .i64 0, .int .i64 0, .int .i64 0, .int .i64 0], []⟩).memory := by
 have h : laidMet Tryd.prog [("fulling/machine.table", Rows.laid_fulling_machine_table)] ((laidWorld os).forCall (fun _ _ => 0) ⟨#[], #[.slice none 0 0, .int .i64 0, .int .i64 0, .int .i64 0, .int .i64 0, .int .i64 0], []⟩).memory :=
  laidMet_of_run' 8 (by kernel_rfl) (by kernel_rfl)
 show laidMetH Tryd.prog [("fulling/machine.table", Rows.laid_fulling_machine_table)] _
 unfold laidMetH
 rw [noHandles]
 exact h
theorem reads (os : Os) {H : Type} (enc : TypeId × Value -> H) : ∃ places, DataW.whole enc Tryd.prog ((laidWorld os).forCall (fun _ _ => 0) ⟨#[], #[.slice none 0 0, .int .i64 0, .int .i64 0, .int .i64 0, .int .i64 0, .int .i64 0], []⟩).memory Tryd.f9.params.toList Rows.cPUStepsSpec.vars false (#[.slice none 0 0, .int .i64 0, .int .i64 0, .int .i64 0, .int .i64 0, .int .i64 0] : Array Value).toList 8 = some ([.nil, .lit (.int .i64 0), .lit (.int .i64 0), .lit (.int .i64 0), .lit (.int .i64 0), .lit (.int .i64 0)], [], places) :=
 ⟨[], by kernel_rfl⟩
set_option maxRecDepth 100000 in
theorem lifted (os : Os) (started : os.Started) (H : Type) (enc : TypeId × Value -> H) (F : Stop.Interp) :
  ReturnsInHanded {} Tryd.checked os 9 .any ((OpenSpec.ofChange Rows.cPUStepsSpec).preRow enc Tryd.prog Tryd.f9 Rows.cPUStepsRow.domain false Rows.cPUStepsRow.laid) (((OpenSpec.ofChange Rows.cPUStepsSpec).at F).post enc Tryd.prog Tryd.f9 false true false false) := by
 obtain ⟨places, hx⟩ := reads os enc
 refine returnsInHanded_of_row (C := Tryd.checked) (s := OpenSpec.ofChange Rows.cPUStepsSpec) own started (by kernel_rfl) Tryd.func9
  (witness_row_atRef (enc := enc) (C := Tryd.checked) false (laidWorld os) #[.slice none 0 0, .int .i64 0, .int .i64 0, .int .i64 0, .int .i64 0, .int .i64 0] rfl (by kernel_rfl) (by kernel_rfl) (by kernel_rfl)
   (OpenSpec.preRow_of_cond 8 hx (by kernel_rfl) (fun k hk => by cases hk) (by kernel_rfl) (laid_met os))) ?_
 intro W base args ds gs before hval hW _ _ hz hL _ _
 exact contract H enc W base args ds gs before hval hW hL hz
theorem said : Rows.CPUStepsSaid :=
 OpenClaim.holds_of_cond 9 Tryd.f9 rfl rfl rfl rfl rfl rfl rfl ⟨rfl, rfl, rfl, rfl, rfl⟩ rfl rfl rfl rfl rfl (by kernel_rfl) Tryd.func9 (by kernel_rfl)
  (of_decide_eq_true (by kernel_rfl)) (by unfold Func.isWrapper; first | (rw [if_pos (by decide +kernel)]; kernel_rfl) | (rw [if_neg (by decide +kernel)]; exact ⟨rfl, rfl⟩))
  (fun os started H enc _ F => by rw [OpenClaim.pre_eq_preRow]; exact lifted os started H enc F)
theorem plainCard (f : FuncId) (fn : Func) (hf : Tryd.pinned.checked.prog.funcNamed Rows.cPUStepsRow.func = some f) (hfn : Tryd.pinned.checked.prog.funcs[f]? = some fn) :
  false = Tryd.pinned.checked.prog.looks [] /\ ∀ (j : Nat) t, fn.params[j]? = some t -> Tryd.pinned.checked.prog.wantsStandIn t = false := by
 obtain rfl : f = 9 := Option.some.inj ((show Tryd.prog.funcNamed Rows.cPUStepsRow.func = some 9 by kernel_rfl).symm.trans hf) |>.symm
 obtain rfl : fn = Tryd.f9 := (Option.some.inj (Tryd.func9.symm.trans hfn)).symm
 refine ⟨by kernel_rfl, fun j t ht => ?_⟩
 rw [Tryd.params9] at ht
 exact wants_of (ts := #[23, 3, 3, 3, 2, 3]) (by kernel_rfl) ht
theorem proved : Rows.CPUStepsCardSaid :=
 Claim7.holds_tied_plain_at .later [] _ _ _ _ said (fun _ h => by cases h) (by kernel_rfl) (fun _ h => by cases h) cPUSteps_row_tie rfl ⟨rfl, rfl⟩ (by kernel_rfl) rfl plainCard (by kernel_rfl)
end Go.Proofs.YtlenjfbmpekabaaDoor.cPUSteps
