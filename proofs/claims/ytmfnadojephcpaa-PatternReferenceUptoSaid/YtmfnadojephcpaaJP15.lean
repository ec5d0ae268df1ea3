/-
  Patterns: what the reference's Instantiate computes.
  Conditions: none.
-/
import Derived.Test.YtmfnadojephcpaaX15
import Derived.KernelRfl
set_option linter.unusedVariables false
set_option linter.unusedSimpArgs false
namespace Go.Proofs.Ytmfnadojephcpaa
open Go.Pv Go.M15
theorem fidx_step {n : Nd} {l : List Nd} {i : Nat} (h : i < l.length) : fidx n (l.drop i) i = if n = l[i] then some i else fidx n (l.drop (i + 1)) (i + 1) := by
  rw [List.drop_eq_getElem_cons h, fidx]
def rpInv (iL : Nat) (l : List Nd) (op im : Int) (ks : List Int) (e1 : Nat) (h : Heap) : Inv' := atX Nat (fun i => [(0, .v (.vslice (some iL) ((l).length * 3) (l).length 3 ((l).flatMap cN))), (3, .l 3 0), (6, .v (.int .i64 i))]) (fun _ => [(3, [.int .i64 op, .int .i64 im, .vslice none e1 ks.length 1 (ks.map (IV.int .i64))])]) (fun _ => h)
  (fun i => i ≤ l.length ∧ fidx ⟨op, im, ks⟩ (l.drop i) i = fidx ⟨op, im, ks⟩ l 0) (fun i => l.length - i)
def kRPut (xs : List IV) (h : Heap) (K : IV → Heap → Prop) : Prop := match xs with
  | [.vslice (some iL) e0 n0 3 c0, .agg [.int .i64 op, .int .i64 im, .vslice none e1 n1 1 c1]] => ∃ (l : List Nd) (ks : List Int), (e0 = l.length * 3 ∧ n0 = l.length ∧ c0 = l.flatMap cN) ∧ (n1 = ks.length ∧ c1 = ks.map (IV.int .i64)) ∧ h.get iL = .tip (l.length * 3) ∧ (l.length ≤ 1000000000 ∧ ks.length ≤ 1000000000 ∧ ∀ x ∈ l, x.ks.length ≤ 1000000000) ∧
   ∀ h2 : Heap, h2.get iL = .tip ((putA l ⟨op, im, ks⟩).1.length * 3) → HF iL h h2 → K (.tuple [.vslice (some iL) (((putA l ⟨op, im, ks⟩).1).length * 3) ((putA l ⟨op, im, ks⟩).1).length 3 (((putA l ⟨op, im, ks⟩).1).flatMap cN), .int .i64 (putA l ⟨op, im, ks⟩).2]) h2
  | _ => False
noncomputable def z51a (op im : Int) (ks : List Int) (e1 : Nat) := [IV.int .i64 op, IV.int .i64 im, IV.vslice none e1 ks.length 1 (List.map (IV.int .i64) ks)]
noncomputable def z51b (iL : Nat) (l : List Nd) := TV.v (.vslice (some iL) (l.length * 3) l.length 3 (List.flatMap cN l))
noncomputable def z51c  := TV.l 3 0
set_option maxRecDepth 100000 in
theorem vRPut (iL : Nat) (l : List Nd) (op im : Int) (ks : List Int) (e1 : Nat) (h : Heap) (Q : IV → Heap → Prop) : dF (stdS cNodes) env 51 noU (ic1 3 (rpInv iL l op im ks e1 h)) noI [.vslice (some iL) ((l).length * 3) (l).length 3 ((l).flatMap cN), .agg [.int .i64 op, .int .i64 im, .vslice none e1 ks.length 1 (ks.map (IV.int .i64))]] h Q = (
  (∃ (x : Nat), some (z51b iL l) = some (z51b iL l) ∧ some z51c = some z51c ∧ some (TV.v (.int .i64 0)) = some (TV.v (.int .i64 (↑x : Int))) ∧ some (z51a op im ks e1) = some (z51a op im ks e1) ∧ h = h ∧ (x ≤ l.length ∧ fidx (Nd.mk op im ks) (List.drop x l) x = fidx (Nd.mk
 op im ks) l (0 : Nat)) ∧ True) ∧ ∀ (x : Nat) (b : FF), x ≤ l.length ∧ fidx (Nd.mk op im ks) (List.drop x l) x = fidx (Nd.mk op im ks) l (0 : Nat) → brS (decide ((↑x : Int) < (↑l.length : Int))) (needS (decide (0 ≤ (↑x : Int)) && decide ((↑x : Int) < (↑l.length : Int))) (ldIS
 .i64 (List.flatMap cN l) (Int.toNat (↑x : Int) * 3) fun n0 => ldIS .i64 (List.flatMap cN l) (Int.toNat (↑x : Int) * 3 + (1 : Nat)) fun n1 => ldVS 1 (List.flatMap cN l) (Int.toNat (↑x : Int) * 3 + (1 : Nat) + 1) fun (i2 : Option Nat)
 (e3 l4 : Nat) (c5 : List IV) => ∃ (ks_1 ks2 : List Int), (l4 = ks_1.length ∧ c5 = List.map (IV.int .i64) ks_1) ∧ (ks.length = ks2.length ∧ List.map (IV.int .i64) ks = List.map (IV.int .i64) ks2) ∧ ks_1.length ≤ 1000000000 ∧ brS (decide
 (Nd.mk n0 n1 ks_1 = Nd.mk op im ks2)) (Q (.tuple [.vslice (some iL) (l.length * 3) l.length 3 (List.flatMap cN l), IV.int .i64 (↑x : Int)]) h) (∃ (x_1 : Nat), some (z51b iL l) = some (z51b iL l) ∧ some z51c = some z51c ∧ some (TV.v (.int .i64 (IntKind.wrap
 .i64 ((↑x : Int) + 1)))) = some (TV.v (.int .i64 (↑x_1 : Int))) ∧ some (z51a op im ks e1) = some (z51a op im ks e1) ∧ h = h ∧ (x_1 ≤ l.length ∧ fidx (Nd.mk op im ks) (List.drop x_1 l) x_1 = fidx (Nd.mk op im ks) l (0 : Nat)) ∧ l.length - x_1 < l.length - x))) (tipS
 h iL fun (m6 : Nat) => needS (Nat.beq m6 (l.length * 3) && Nat.ble ((l.length + 1) * 40) (140737488355328 : Nat)) (Q (.tuple [.vslice (some iL) (l.length * 3 + (3 : Nat)) (l.length + 1) 3 (List.flatMap cN l ++ [IV.int .i64
 op, IV.int .i64 im, IV.vslice none 0 ks.length 1 (List.map (IV.int .i64) ks)]), IV.int .i64 (↑l.length : Int)]) (Heap.set h iL (IObj.tip (l.length * 3 + (3 : Nat))))))) := by kernel_rfl
set_option maxHeartbeats 1000000 in
theorem sRPut : ∀ xs h Q, kRPut xs h Q → CallW env 51 xs h Q := by
  intro xs h Q hk
  unfold kRPut at hk
  split at hk
  · rename_i iL e0 n0 c0 op im e1 n1 c1
    obtain ⟨l, ks, ⟨rfl, rfl, rfl⟩, ⟨rfl, rfl⟩, hg, hb, hk⟩ := hk
    refine dF_run (okNodes) (vRPut iL l op im ks e1 h Q) ?_
    delta z51a z51b z51c
    have tn : ∀ x : Nat, (x : Int).toNat = x := Int.toNat_natCast
    obtain ⟨hll, hkl, hks⟩ := hb
    have fin : ∀ r : List Nd × Int, putA l ⟨op, im, ks⟩ = r → ∀ h2 : Heap, h2.get iL = .tip (r.1.length * 3) → HF iL h h2 → Q (.tuple [.vslice (some iL) (r.1.length * 3) r.1.length 3 (r.1.flatMap cN), .int .i64 r.2]) h2 := by
      rintro r rfl h2 q1 q2
      exact hk h2 q1 q2
    have et : ∀ x : Nd, (⟨x.op, x.im, x.ks⟩ : Nd) = x := fun x => by cases x; rfl
    refine ⟨⟨0, rfl, rfl, rfl, rfl, rfl, ⟨Nat.zero_le _, rfl⟩, trivial⟩, ?_⟩
    rintro i _ ⟨hi, hf⟩
    try dsimp only at hi hf ⊢
    refine brS_intro (fun c => ?_) (fun c => ?_)
    · rw [decide_eq_true_eq] at c
      have hlt : i < l.length := by omega
      simp only [tn]
      rw [fidx_step hlt] at hf
      refine needS_intro (by simp; omega) (ldNd hlt rfl ⟨l[i].ks, ks, ⟨rfl, rfl⟩, ⟨rfl, rfl⟩, hks _ (List.getElem_mem hlt), brS_intro (fun c1 => ?_) (fun c1 => ⟨i + 1, (by first | rfl | exact True.intro | (rw [IntWalk.i64_in _ (by omega)]; rfl)), (by first | rfl | exact True.intro | (rw [IntWalk.i64_in _ (by omega)]; rfl)), (by first | rfl | exact True.intro | (rw [IntWalk.i64_in _ (by omega)]; rfl)), (by first | rfl | exact True.intro | (rw [IntWalk.i64_in _ (by omega)]; rfl)), (by first | rfl | exact True.intro | (rw [IntWalk.i64_in _ (by omega)]; rfl)), ⟨hlt, ?_⟩, by (try dsimp only); omega⟩)⟩)
      · rw [decide_eq_true_eq, et] at c1
        rw [if_pos c1.symm] at hf
        exact fin (l, (i : Int)) (by unfold putA; rw [← hf]) h hg HF.refl
      · rw [decide_eq_false_iff_not, et] at c1
        rw [if_neg (fun e => c1 e.symm)] at hf
        exact hf
    · rw [decide_eq_false_iff_not] at c
      have hi2 : i = l.length := by omega
      subst hi2
      rw [List.drop_length, fidx] at hf
      refine tip_intro hg (needS_intro (by simp only [Bool.and_eq_true, nbeq_t, Nat.ble_eq, true_and]; omega) ?_)
      have := fin (l ++ [⟨op, im, ks⟩], (l.length : Int)) (by unfold putA; rw [← hf]) (h.set iL (.tip (l.length * 3 + 3))) (by rw [get_set_eq]; simp [Nat.succ_mul]) HF.set
      simpa [Nat.succ_mul, cN] using this
  · exact hk.elim
def cRPut := addC 51 kRPut cNodes
theorem okRPut : Sound env cRPut := sound_add sRPut (okNodes)

def kRInst (xs : List IV) (h : Heap) (K : IV → Heap → Prop) : Prop := match xs with
  | [.agg [.int .i64 v, .int .i64 op, .int .i64 im, .int .i64 iv, .vslice none 0 n1 5 c1], .vslice none 0 n2 1 c2, .vslice none 0 n3 1 c3] => ∃ (ks : List T) (kids imms : List Int), (n1 = ks.length ∧ c1 = cTs ks) ∧ (n2 = kids.length ∧ c2 = kids.map (IV.int .i64)) ∧ (n3 = imms.length ∧ c3 = imms.map (IV.int .i64)) ∧ (0 ≤ iv ∧ iv ≤ imms.length ∧ imms.length ≤ 1000) ∧ K (.agg [.int .i64 op, .int .i64 (immV iv im imms), .vslice none 0 (kids).length 1 ((kids).map (IV.int .i64))]) h
  | _ => False
set_option maxRecDepth 100000 in
theorem vRInst (v op im iv : Int) (ks : List T) (kids imms : List Int) (h : Heap) (Q : IV → Heap → Prop) : dF (stdS cRPut) env 52 noU noI noI [.agg [.int .i64 v, .int .i64 op, .int .i64 im, .int .i64 iv, .vslice none 0 ks.length 5 (cTs ks)], .vslice none 0 (kids).length 1 ((kids).map (IV.int .i64)), .vslice none 0 (imms).length 1 ((imms).map (IV.int .i64))] h Q = (
  needS
 (pureL
 [IV.agg [.int .i64 v, IV.int .i64 op, IV.int .i64 im, IV.int .i64 iv, IV.vslice none 0 ks.length 5 (cTs ks)],
 IV.vslice none 0 kids.length 1 (List.map (IV.int .i64) kids), IV.vslice none 0 imms.length 1 (List.map (IV.int .i64) imms)])
 (brS (decide (iv > 0))
 (needS (decide (0 ≤ IntKind.wrap .i64 (iv - 1)) && decide (IntKind.wrap .i64 (iv - 1) < (↑imms.length : Int)))
 (ldIS .i64 (List.map (IV.int .i64) imms) (Int.toNat (IntKind.wrap .i64 (iv - 1)) * 1) fun n0 =>
 needS (pureL [IV.agg [.int .i64 op, IV.int .i64 n0, IV.vslice none 0 kids.length 1 (List.map (IV.int .i64) kids)]])
 (Q (.agg [.int .i64 op, IV.int .i64 n0, IV.vslice none 0 kids.length 1 (List.map (IV.int .i64) kids)]) h)))
 (needS (pureL [IV.agg [.int .i64 op, IV.int .i64 im, IV.vslice none 0 kids.length 1 (List.map (IV.int .i64) kids)]])
 (Q (.agg [.int .i64 op, IV.int .i64 im, IV.vslice none 0 kids.length 1 (List.map (IV.int .i64) kids)]) h)))) := by kernel_rfl
set_option maxHeartbeats 1000000 in
theorem sRInst : ∀ xs h Q, kRInst xs h Q → CallW env 52 xs h Q := by
  intro xs h Q hk
  unfold kRInst at hk
  split at hk
  · rename_i v op im iv n1 c1 n2 c2 n3 c3
    obtain ⟨ks, kids, imms, ⟨rfl, rfl⟩, ⟨rfl, rfl⟩, ⟨rfl, rfl⟩, hb, hk⟩ := hk
    refine dF_run (okRPut) (vRInst v op im iv ks kids imms h Q) ?_
    refine needS_intro (by simp only [pureL, pureB, pureL_ints, pureL_cTs, Bool.and_true]) (brS_intro (fun c => ?_) (fun c => ?_))
    · rw [decide_eq_true_eq] at c
      have hlt : (iv - 1).toNat < imms.length := by omega
      have hw : IntKind.i64.wrap (iv - 1) = iv - 1 := IntWalk.i64_in _ (by omega)
      rw [hw]
      refine needS_intro (by simp; omega) ?_
      rw [Nat.mul_one]
      refine ldIS_map hlt (needS_intro (by simp only [pureL, pureB, pureL_ints, Bool.and_true]) ?_)
      have e : immV iv im imms = imms[(iv - 1).toNat] := by
        unfold immV
        rw [if_pos c, List.getD_eq_getElem?_getD, List.getElem?_eq_getElem hlt]
        rfl
      rw [e] at hk
      exact hk
    · rw [decide_eq_false_iff_not] at c
      have e : immV iv im imms = im := by
        unfold immV
        rw [if_neg c]
      rw [e] at hk
      exact needS_intro (by simp only [pureL, pureB, pureL_ints, Bool.and_true]) hk
  · exact hk.elim
def cRInst := addC 52 kRInst cRPut
theorem okRInst : Sound env cRInst := sound_add sRInst (okRPut)

def riInv (iL : Nat) (v op im iv : Int) (ks : List T) (io : Option Nat) (e1 : Nat) (vars imms : List Int) (l : List Nd) (h : Heap) : Inv' := .or
  (atX (Nat × Heap × List Nd) (fun x => [(0, .v (.vslice (some iL) ((x.2.2).length * 3) (x.2.2).length 3 ((x.2.2).flatMap cN))), (2, .v (.vslice none 0 (vars).length 1 ((vars).map (IV.int .i64)))), (3, .v (.vslice none 0 (imms).length 1 ((imms).map (IV.int .i64)))), (5, .l 5 0), (10, .v .nilslice), (11, .v (.int .i64 x.1))]) (fun x => [(5, [.int .i64 v, .int .i64 op, .int .i64 im, .int .i64 iv, .vslice io e1 ks.length 5 (cTs ks)])]) (fun x => x.2.1)
    (fun x => IK ks vars imms l x.1 x.2.2 [] ∧ x.2.1.get iL = .tip (x.2.2.length * 3) ∧ HF iL h x.2.1 ∧ KB x.2.2) (fun x => ks.length - x.1))
  (atX (Nat × Heap × List Nd × List Int × Nat) (fun x => [(0, .v (.vslice (some iL) ((x.2.2.1).length * 3) (x.2.2.1).length 3 ((x.2.2.1).flatMap cN))), (2, .v (.vslice none 0 (vars).length 1 ((vars).map (IV.int .i64)))), (3, .v (.vslice none 0 (imms).length 1 ((imms).map (IV.int .i64)))), (5, .l 5 0), (10, .v (.vslice (some x.2.2.2.2) x.2.2.2.1.length x.2.2.2.1.length 1 (x.2.2.2.1.map (IV.int .i64)))), (11, .v (.int .i64 x.1))]) (fun x => [(5, [.int .i64 v, .int .i64 op, .int .i64 im, .int .i64 iv, .vslice io e1 ks.length 5 (cTs ks)])]) (fun x => x.2.1)
    (fun x => IK ks vars imms l x.1 x.2.2.1 x.2.2.2.1 ∧ x.2.1.get iL = .tip (x.2.2.1.length * 3) ∧ HF iL h x.2.1 ∧ KB x.2.2.1 ∧ x.2.1.get x.2.2.2.2 = .tip x.2.2.2.1.length ∧ x.2.2.2.2 < x.2.1.next ∧ h.next ≤ x.2.2.2.2) (fun x => ks.length - x.1))
def kRIns (d : Nat) (xs : List IV) (h : Heap) (K : IV → Heap → Prop) : Prop := match xs with
  | [.vslice (some iL) e0 n0 3 c0, .agg [.int .i64 v, .int .i64 op, .int .i64 im, .int .i64 iv, .vslice io e1 n1 5 c1], .vslice none 0 n2 1 c2, .vslice none 0 n3 1 c3] => ∃ (l : List Nd) (ks : List T) (vars imms : List Int), (e0 = l.length * 3 ∧ n0 = l.length ∧ c0 = l.flatMap cN) ∧ (n1 = ks.length ∧ c1 = cTs ks) ∧ (n2 = vars.length ∧ c2 = vars.map (IV.int .i64)) ∧ (n3 = imms.length ∧ c3 = imms.map (IV.int .i64)) ∧ (h.get iL = .tip (l.length * 3) ∧ iL < h.next) ∧ ((T.mk v op im iv ks).num ≤ d ∧ (T.mk v op im iv ks).wi vars.length imms.length ∧ (T.mk v op im iv ks).ok) ∧
   ((∀ x ∈ vars, i64b x) ∧ (∀ x ∈ imms, i64b x) ∧ (∀ x ∈ l, okN x) ∧ l.length + (T.mk v op im iv ks).num ≤ 1000000000 ∧ vars.length ≤ 1000 ∧ imms.length ≤ 1000 ∧ KB l ∧ nums ks ≤ 1000000) ∧
   ∀ h2 : Heap, h2.get iL = .tip ((instA (T.mk v op im iv ks) vars imms l).1.length * 3) → HF iL h h2 → K (.tuple [.vslice (some iL) (((instA (T.mk v op im iv ks) vars imms l).1).length * 3) ((instA (T.mk v op im iv ks) vars imms l).1).length 3 (((instA (T.mk v op im iv ks) vars imms l).1).flatMap cN), .int .i64 (instA (T.mk v op im iv ks) vars imms l).2]) h2
  | _ => False
noncomputable def z40c  := IV.int .i64
noncomputable def z40a (vars : List Int) := TV.v (.vslice none 0 vars.length 1 (List.map z40c vars))
noncomputable def z40b (imms : List Int) := TV.v (.vslice none 0 imms.length 1 (List.map z40c imms))
noncomputable def z40d  := TV.l 5 0
noncomputable abbrev z40e (imms imms_1 : List Int) := imms.length = imms_1.length ∧ List.map z40c imms = List.map z40c imms_1
noncomputable def z40f (iL : Nat) (n1 n2 n3 n4 : Int) (l_1 : List Nd) (ks_1 : List T) (vars_1 imms_1 : List Int) := TV.v (.vslice (some iL) (List.length (Prod.fst (instA (T.mk n1 n2 n3 n4 ks_1) vars_1 imms_1 l_1)) * 3) (List.length (Prod.fst (instA (T.mk n1 n2 n3 n4 ks_1) vars_1 imms_1 l_1))) 3 (List.flatMap cN (Prod.fst (instA (T.mk n1 n2 n3 n4 ks_1) vars_1 imms_1 l_1))))
noncomputable def z40g (iL : Nat) (l_1 : List Nd) (ks_1 : List T) (vars_1 imms_1 : List Int) (n9 n10 n11 n12 : Int) := TV.v (.vslice (some iL) (List.length (Prod.fst (instA (T.mk n9 n10 n11 n12 ks_1) vars_1 imms_1 l_1)) * 3) (List.length (Prod.fst (instA (T.mk n9 n10 n11 n12 ks_1) vars_1 imms_1 l_1))) 3 (List.flatMap cN (Prod.fst (instA (T.mk n9 n10 n11 n12 ks_1) vars_1 imms_1 l_1))))
noncomputable def z40h (iL : Nat) (l : List Nd) := TV.v (.vslice (some iL) (l.length * 3) l.length 3 (List.flatMap cN l))
noncomputable def z40i  := TV.v IV.nilslice
set_option maxRecDepth 100000 in
theorem vRIns (dd : Nat) (iL : Nat) (v op im iv : Int) (ks : List T) (io : Option Nat) (e1 : Nat) (vars imms : List Int) (l : List Nd) (h : Heap) (Q : IV → Heap → Prop) : dF (stdS (addC 40 (kRIns dd) cRInst)) env 40 noU (ic1 6 (riInv iL v op im iv ks io e1 vars imms l h)) noI [.vslice (some iL) ((l).length * 3) (l).length 3 ((l).flatMap cN), .agg [.int .i64 v, .int .i64 op, .int .i64 im, .int .i64 iv, .vslice io e1 ks.length 5 (cTs ks)], .vslice none 0 (vars).length 1 ((vars).map (IV.int .i64)), .vslice none 0 (imms).length 1 ((imms).map (IV.int .i64))] h Q = (
  brS (decide (v > 0)) (needS (decide (0 ≤ IntKind.wrap .i64 (v - 1)) && decide (IntKind.wrap .i64 (v - 1) < (↑vars.length : Int))) (ldIS .i64 (List.map z40c vars) (Int.toNat (IntKind.wrap .i64 (v - 1)) * 1) fun (n0 : Int)
 => Q (.tuple [.vslice (some iL) (l.length * 3) l.length 3 (List.flatMap cN l), IV.int .i64 n0]) h)) (((∃ (x : Nat × Heap × List Nd), some (z40h iL l) = some (TV.v (.vslice (some iL) (x.2.2.length * 3) (List.length (Prod.snd (Prod.snd
 x))) 3 (List.flatMap cN x.2.2))) ∧ some (z40a vars) = some (z40a vars) ∧ some (z40b imms) = some (z40b imms) ∧ some z40d = some z40d ∧ some z40i = some z40i ∧ some (TV.v (.int .i64 0)) = some (TV.v (.int .i64 (↑x.1 : Int))) ∧ some [IV.int .i64
 v, IV.int .i64 op, IV.int .i64 im, IV.int .i64 iv, IV.vslice io e1 ks.length 5 (cTs ks)] = some [IV.int .i64 v, IV.int .i64 op, IV.int .i64 im, IV.int .i64 iv, IV.vslice io e1 ks.length 5 (cTs ks)] ∧ h = Prod.fst (Prod.snd
 x) ∧ (IK ks vars imms l x.1 x.2.2 [] ∧ Heap.get x.2.1 iL = IObj.tip (x.2.2.length * 3) ∧ (Heap.next h ≤ Heap.next x.2.1 ∧ ∀ (j : Nat), j < Heap.next h → j ≠ iL → Heap.get x.2.1 j = Heap.get
 h j) ∧ KB x.2.2) ∧ True) ∨ ∃ (x : Nat × Heap × List Nd × List Int × Nat), some (z40h iL l) = some (TV.v (.vslice (some iL) (x.2.2.1.length * 3) x.2.2.1.length 3 (List.flatMap cN (Prod.fst (Prod.snd (Prod.snd
 x)))))) ∧ some (z40a vars) = some (z40a vars) ∧ some (z40b imms) = some (z40b imms) ∧ some z40d = some z40d ∧ some z40i = some (TV.v (.vslice (some x.2.2.2.2) x.2.2.2.1.length (List.length (Prod.fst (Prod.snd (Prod.snd (Prod.snd
 x))))) 1 (List.map z40c x.2.2.2.1))) ∧ some (TV.v (.int .i64 0)) = some (TV.v (.int .i64 (↑x.1 : Int))) ∧ some [IV.int .i64 v, IV.int .i64 op, IV.int .i64 im, IV.int .i64 iv, IV.vslice io e1 (List.length
 ks) 5 (cTs ks)] = some [IV.int .i64 v, IV.int .i64 op, IV.int .i64 im, IV.int .i64 iv, IV.vslice io e1 ks.length 5 (cTs ks)] ∧ h = x.2.1 ∧ (IK ks vars imms l x.1 x.2.2.1 (Prod.fst (Prod.snd (Prod.snd
 x.2))) ∧ Heap.get x.2.1 iL = IObj.tip (x.2.2.1.length * 3) ∧ (Heap.next h ≤ Heap.next x.2.1 ∧ ∀ (j : Nat), j < Heap.next h → j ≠ iL → Heap.get x.2.1 j = Heap.get h j) ∧ KB (Prod.fst (Prod.snd (Prod.snd
 x))) ∧ Heap.get x.2.1 x.2.2.2.2 = IObj.tip x.2.2.2.1.length ∧ x.2.2.2.2 < Heap.next x.2.1 ∧ Heap.next h ≤ x.2.2.2.2) ∧
 True) ∧ (∀ (x : Nat × Heap × List Nd) (b : FF), IK ks vars imms l x.1 x.2.2 [] ∧ Heap.get x.2.1 iL = IObj.tip (x.2.2.length * 3) ∧ HF iL h x.2.1 ∧ KB x.2.2 → brS (decide ((↑x.1 : Int)
 < (↑ks.length : Int))) (needS (decide (0 ≤ (↑x.1 : Int)) && decide ((↑x.1 : Int) < (↑ks.length : Int))) (ldIS .i64 (cTs ks) (Int.toNat (↑x.1 : Int) * 5) fun n1 => ldIS .i64 (cTs ks) (Int.toNat (↑x.1 : Int) * (5 :
 Nat) + 1) fun n2 => ldIS .i64 (cTs ks) (Int.toNat (↑x.1 : Int) * 5 + (1 : Nat) + 1) fun n3 => ldIS .i64 (cTs ks) (Int.toNat (↑x.1 : Int) * 5 + (1 : Nat) + 1 + (1 : Nat)) fun n4 => ldVS 5 (cTs ks) (Int.toNat
 (↑x.1 : Int) * 5 + (1 : Nat) + 1 + (1 : Nat) + 1) fun (i5 : Option Nat) (e6 l7 : Nat) (c8 : List IV) => ∃ (l_1 : List Nd), ∃ (ks_1 : List T), ∃ (vars_1 imms_1 : List Int), (x.2.2.length * 3 = l_1.length * 3 ∧
 x.2.2.length = l_1.length ∧ List.flatMap cN x.2.2 = List.flatMap cN l_1) ∧ (l7 = ks_1.length ∧ c8 = cTs ks_1) ∧ (vars.length = vars_1.length ∧ List.map z40c vars = List.map z40c vars_1) ∧ (z40e imms imms_1) ∧ (Heap.get x.2.1
 iL = IObj.tip (l_1.length * 3) ∧ iL < Heap.next x.2.1) ∧ (T.num (T.mk n1 n2 n3 n4 ks_1) ≤ dd ∧ T.wi (T.mk n1 n2 n3 n4 ks_1) (↑vars_1.length : Int) (↑imms_1.length : Int) ∧ T.ok (T.mk n1 n2 n3 n4 ks_1)) ∧ ((∀ (x : Int), x ∈ vars_1 → i64b x) ∧ (∀ (x : Int),
 x ∈ imms_1 → i64b x) ∧ (∀ (x : Nd), x ∈ l_1 → okN x) ∧ l_1.length + T.num (T.mk n1 n2 n3 n4 ks_1) ≤ 1000000000 ∧ vars_1.length ≤ 1000 ∧ imms_1.length ≤ 1000 ∧ KB l_1 ∧ nums ks_1 ≤ 1000000) ∧ ∀ (h2 : Heap), Heap.get h2 iL = IObj.tip (List.length (Prod.fst
 (instA (T.mk n1 n2 n3 n4 ks_1) vars_1 imms_1 l_1)) * 3) → HF iL x.2.1 h2 → (∃ (x_1 : Nat × Heap × List Nd), some (z40f iL n1 n2 n3 n4 l_1 ks_1 vars_1 imms_1) = some (TV.v (.vslice (some iL) (x_1.2.2.length * 3) (List.length (Prod.snd (Prod.snd
 x_1))) 3 (List.flatMap cN x_1.2.2))) ∧ some (z40a vars) = some (z40a vars) ∧ some (z40b imms) = some (z40b imms) ∧ some z40d = some z40d ∧ some (TV.v (.vslice (some (Heap.next h2)) 1 1 1 [IV.int .i64 (Prod.snd (instA (T.mk n1 n2 n3 n4 ks_1) vars_1
 imms_1 l_1))])) = some z40i ∧ some (TV.v (.int .i64 (IntKind.wrap .i64 ((↑x.1 : Int) + 1)))) = some (TV.v (.int .i64 (↑x_1.1 : Int))) ∧ some [IV.int .i64 v, IV.int .i64 op, IV.int .i64 im, IV.int .i64 iv, IV.vslice io e1 (List.length
 ks) 5 (cTs ks)] = some [IV.int .i64 v, IV.int .i64 op, IV.int .i64 im, IV.int .i64 iv, IV.vslice io e1 ks.length 5 (cTs ks)] ∧ Heap.push h2 (IObj.tip (1 : Nat)) = x_1.2.1 ∧ (IK ks vars imms l x_1.1 x_1.2.2 []
 ∧ Heap.get x_1.2.1 iL = IObj.tip (x_1.2.2.length * 3) ∧ (Heap.next h ≤ Heap.next x_1.2.1 ∧ ∀ (j : Nat), j < Heap.next h → j ≠ iL → Heap.get x_1.2.1 j = Heap.get h j) ∧ KB x_1.2.2) ∧ ks.length -
 x_1.1 < ks.length - x.1) ∨ ∃ (x_1 : Nat × Heap × List Nd × List Int × Nat), some (z40f iL n1 n2 n3 n4 l_1 ks_1 vars_1 imms_1) = some (TV.v (.vslice (some iL) (x_1.2.2.1.length * 3) x_1.2.2.1.length 3
 (List.flatMap cN x_1.2.2.1))) ∧ some (z40a vars) = some (z40a vars) ∧ some (z40b imms) = some (z40b imms) ∧ some z40d = some z40d ∧ some (TV.v (.vslice (some (Heap.next h2)) 1 1 1 [IV.int .i64 (Prod.snd (instA (T.mk n1 n2 n3 n4 ks_1) vars_1
 imms_1 l_1))])) = some (TV.v (.vslice (some x_1.2.2.2.2) x_1.2.2.2.1.length x_1.2.2.2.1.length 1 (List.map z40c x_1.2.2.2.1))) ∧ some
 (TV.v (.int .i64 (IntKind.wrap .i64 ((↑x.1 : Int) + 1)))) = some (TV.v (.int .i64 (↑x_1.1 : Int))) ∧ some [IV.int .i64 v, IV.int .i64 op, IV.int .i64 im, IV.int .i64 iv, IV.vslice io e1 ks.length 5 (cTs ks)]
 = some [IV.int .i64 v, IV.int .i64 op, IV.int .i64 im, IV.int .i64 iv, IV.vslice io e1 ks.length 5 (cTs ks)] ∧ Heap.push h2 (IObj.tip (1 : Nat)) = x_1.2.1 ∧ (IK ks vars imms l x_1.1 x_1.2.2.1 (Prod.fst (Prod.snd
 x_1.2.2)) ∧ Heap.get x_1.2.1 iL = IObj.tip (x_1.2.2.1.length * 3) ∧ (Heap.next h ≤ Heap.next x_1.2.1 ∧ ∀ (j : Nat), j < Heap.next h → j ≠ iL → Heap.get x_1.2.1 j = Heap.get h j) ∧ KB (Prod.fst
 x_1.2.2) ∧ Heap.get x_1.2.1 x_1.2.2.2.2 = IObj.tip x_1.2.2.2.1.length ∧ x_1.2.2.2.2 < Heap.next x_1.2.1 ∧ Heap.next h ≤ Prod.snd (Prod.snd
 x_1.2.2)) ∧ ks.length - x_1.1 < ks.length - x.1)) (∃ (ks_1 : List T), ∃ (kids imms_1 : List Int), (ks.length = ks_1.length ∧ cTs ks = cTs ks_1) ∧ ((0 : Nat) = kids.length ∧ [] = List.map z40c kids) ∧ (z40e imms imms_1) ∧ ((0 : Int)
 ≤ iv ∧ iv ≤ (↑imms_1.length : Int) ∧ imms_1.length ≤ 1000) ∧ ∃ (l : List Nd), ∃ (ks : List Int), (x.2.2.length * 3 = l.length * 3 ∧ x.2.2.length = l.length ∧ List.flatMap cN x.2.2 = List.flatMap
 cN l) ∧ (kids.length = ks.length ∧ List.map z40c kids = List.map z40c ks) ∧ Heap.get x.2.1 iL = IObj.tip (l.length * 3) ∧ (l.length ≤ 1000000000 ∧ ks.length ≤ 1000000000 ∧ ∀ (x : Nd), x ∈ l → List.length (Nd.ks x) ≤ 1000000000)
 ∧ ∀ (h2 : Heap), Heap.get h2 iL = IObj.tip (List.length (Prod.fst (putA l (Nd.mk op (immV iv im imms_1) ks))) * 3) → HF iL x.2.1 h2 → Q (.tuple [.vslice (some iL) (List.length (Prod.fst (putA l (Nd.mk op (immV iv im imms_1) ks))) * 3) (List.length (Prod.fst (putA
 l (Nd.mk op (immV iv im imms_1) ks)))) 3 (List.flatMap cN (Prod.fst (putA l (Nd.mk op (immV iv im imms_1) ks)))), IV.int .i64 (Prod.snd (putA l (Nd.mk op (immV iv im imms_1) ks)))]) h2)) ∧ ∀ (x : Nat × Heap × List Nd × List Int × Nat) (b : FF), IK ks vars imms l x.1 (Prod.fst
 x.2.2) x.2.2.2.1 ∧ Heap.get x.2.1 iL = IObj.tip (x.2.2.1.length * 3) ∧ HF iL h x.2.1 ∧ KB x.2.2.1 ∧ Heap.get x.2.1 (Prod.snd (Prod.snd
 x.2.2)) = IObj.tip x.2.2.2.1.length ∧ x.2.2.2.2 < Heap.next x.2.1 ∧ Heap.next h ≤ x.2.2.2.2 → brS (decide ((↑x.1 : Int) < (↑ks.length : Int)))
 (needS (decide (0 ≤ (↑x.1 : Int)) && decide ((↑x.1 : Int) < (↑ks.length : Int))) (ldIS .i64 (cTs ks) (Int.toNat (↑x.1 : Int) * 5) fun n9 => ldIS .i64 (cTs ks) (Int.toNat (↑x.1 : Int) * 5 + (1 : Nat)) fun (n10 : Int)
 => ldIS .i64 (cTs ks) (Int.toNat (↑x.1 : Int) * 5 + (1 : Nat) + 1) fun n11 => ldIS .i64 (cTs ks) (Int.toNat (↑x.1 : Int) * 5 + (1 : Nat) + 1 + (1 : Nat)) fun n12 => ldVS 5 (cTs ks) (Int.toNat (↑x.1 : Int)
 * (5 : Nat) + 1 + (1 : Nat) + 1 + (1 : Nat)) fun (i13 : Option Nat) (e14 l15 : Nat) (c16 : List IV) => ∃ (l_1 : List Nd), ∃ (ks_1 : List T), ∃ (vars_1 imms_1 : List Int), (x.2.2.1.length * 3 = l_1.length * 3 ∧ List.length
 x.2.2.1 = l_1.length ∧ List.flatMap cN x.2.2.1 = List.flatMap cN l_1) ∧ (l15 = ks_1.length ∧ c16 = cTs ks_1) ∧ (vars.length = vars_1.length ∧ List.map z40c vars = List.map z40c vars_1) ∧ (z40e imms imms_1) ∧ (Heap.get (Prod.fst
 x.2) iL = IObj.tip (l_1.length * 3) ∧ iL < Heap.next x.2.1) ∧ (T.num (T.mk n9 n10 n11 n12 ks_1) ≤ dd ∧ T.wi (T.mk n9 n10 n11 n12 ks_1) (↑vars_1.length : Int) (↑imms_1.length : Int) ∧ T.ok (T.mk n9 n10 n11 n12 ks_1)) ∧ ((∀ (x : Int), x ∈ vars_1 → i64b
 x) ∧ (∀ (x : Int), x ∈ imms_1 → i64b x) ∧ (∀ (x : Nd), x ∈ l_1 → okN x) ∧ l_1.length + T.num (T.mk n9 n10 n11 n12 ks_1) ≤ 1000000000 ∧ vars_1.length ≤ 1000 ∧ imms_1.length ≤ 1000 ∧ KB l_1 ∧ nums ks_1 ≤ 1000000) ∧ ∀ (h2 : Heap), Heap.get h2 iL = IObj.tip
 (List.length (Prod.fst (instA (T.mk n9 n10 n11 n12 ks_1) vars_1 imms_1 l_1)) * 3) → HF iL x.2.1 h2 → tipS h2 x.2.2.2.2 fun (m17 : Nat) => needS (Nat.beq m17 x.2.2.2.1.length && Nat.ble ((List.length
 x.2.2.2.1 + 1) * 8) (140737488355328 : Nat)) ((∃ (x_1 : Nat × Heap × List Nd), some (z40g iL l_1 ks_1 vars_1 imms_1 n9 n10 n11 n12) = some (TV.v (.vslice (some iL) (x_1.2.2.length * 3) (List.length (Prod.snd (Prod.snd
 x_1))) 3 (List.flatMap cN x_1.2.2))) ∧ some (z40a vars) = some (z40a vars) ∧ some (z40b imms) = some (z40b imms) ∧ some z40d = some z40d ∧ some (TV.v (.vslice (some x.2.2.2.2) (x.2.2.2.1.length +
 (1 : Nat)) (x.2.2.2.1.length + 1) 1 (List.map z40c x.2.2.2.1 ++ [IV.int .i64 (Prod.snd (instA (T.mk n9 n10 n11 n12 ks_1) vars_1 imms_1 l_1))]))) = some z40i ∧ some (TV.v (.int .i64 (IntKind.wrap
 .i64 ((↑x.1 : Int) + 1)))) = some (TV.v (.int .i64 (↑x_1.1 : Int))) ∧ some [IV.int .i64 v, IV.int .i64 op, IV.int .i64 im, IV.int .i64 iv, IV.vslice io e1 ks.length 5 (cTs ks)] = some [IV.int .i64 v, IV.int .i64
 op, IV.int .i64 im, IV.int .i64 iv, IV.vslice io e1 ks.length 5 (cTs ks)] ∧ Heap.set h2 x.2.2.2.2 (IObj.tip (x.2.2.2.1.length + 1)) = x_1.2.1 ∧ (IK ks vars imms l (Prod.fst
 x_1) x_1.2.2 [] ∧ Heap.get x_1.2.1 iL = IObj.tip (x_1.2.2.length * 3) ∧ (Heap.next h ≤ Heap.next x_1.2.1 ∧ ∀ (j : Nat), j < Heap.next h → j ≠ iL → Heap.get x_1.2.1 j = Heap.get h j) ∧ KB (Prod.snd (Prod.snd
 x_1))) ∧ ks.length - x_1.1 < ks.length - x.1) ∨ ∃ (x_1 : Nat × Heap × List Nd × List Int × Nat), some (z40g iL l_1 ks_1 vars_1 imms_1 n9 n10 n11 n12) = some (TV.v (.vslice (some iL) (x_1.2.2.1.length * 3) (List.length (Prod.fst (Prod.snd
 x_1.2))) 3 (List.flatMap cN x_1.2.2.1))) ∧ some (z40a vars) = some (z40a vars) ∧ some (z40b imms) = some (z40b imms) ∧ some z40d = some z40d ∧ some (TV.v (.vslice (some x.2.2.2.2) (List.length (Prod.fst (Prod.snd (Prod.snd
 x.2))) + 1) (x.2.2.2.1.length + 1) 1 (List.map z40c x.2.2.2.1 ++ [IV.int .i64 (Prod.snd (instA (T.mk n9 n10 n11 n12 ks_1) vars_1 imms_1 l_1))]))) = some (TV.v (.vslice (some (Prod.snd
 x_1.2.2.2)) x_1.2.2.2.1.length x_1.2.2.2.1.length 1 (List.map z40c x_1.2.2.2.1))) ∧ some (TV.v (.int .i64 (IntKind.wrap .i64 ((↑(Prod.fst
 x) : Int) + 1)))) = some (TV.v (.int .i64 (↑x_1.1 : Int))) ∧ some [IV.int .i64 v, IV.int .i64 op, IV.int .i64 im, IV.int .i64 iv, IV.vslice io e1 ks.length 5 (cTs ks)] = some [IV.int .i64 v, IV.int .i64 op, IV.int .i64
 im, IV.int .i64 iv, IV.vslice io e1 ks.length 5 (cTs ks)] ∧ Heap.set h2 x.2.2.2.2 (IObj.tip (x.2.2.2.1.length + 1)) = x_1.2.1 ∧ (IK ks vars imms l x_1.1 (Prod.fst (Prod.snd
 x_1.2)) x_1.2.2.2.1 ∧ Heap.get x_1.2.1 iL = IObj.tip (x_1.2.2.1.length * 3) ∧ (Heap.next h ≤ Heap.next x_1.2.1 ∧ ∀ (j : Nat), j < Heap.next h → j ≠ iL → Heap.get (Prod.fst (Prod.snd
 x_1)) j = Heap.get h j) ∧ KB x_1.2.2.1 ∧ Heap.get x_1.2.1 x_1.2.2.2.2 = IObj.tip x_1.2.2.2.1.length ∧ x_1.2.2.2.2 < Heap.next (Prod.fst (Prod.snd
 x_1)) ∧ Heap.next h ≤ x_1.2.2.2.2) ∧ ks.length - x_1.1 < ks.length - x.1))) (∃ (ks_1 : List T), ∃ (kids imms_1 : List Int), (ks.length = ks_1.length ∧ cTs ks = cTs ks_1) ∧ (List.length (Prod.fst (Prod.snd (Prod.snd (Prod.snd
 x)))) = kids.length ∧ List.map z40c x.2.2.2.1 = List.map z40c kids) ∧ (z40e imms imms_1) ∧ (0 ≤ iv ∧ iv ≤ (↑imms_1.length : Int) ∧ imms_1.length ≤ 1000) ∧ ∃ (l : List Nd), ∃ (ks : List Int), (List.length (Prod.fst (Prod.snd (Prod.snd
 x))) * 3 = l.length * 3 ∧ x.2.2.1.length = l.length ∧ List.flatMap cN x.2.2.1 = List.flatMap cN l) ∧ (kids.length = ks.length ∧ List.map z40c kids = List.map z40c ks) ∧ Heap.get x.2.1 iL =
 IObj.tip (l.length * 3) ∧ (l.length ≤ 1000000000 ∧ ks.length ≤ 1000000000 ∧ ∀ (x : Nd), x ∈ l → List.length (Nd.ks x) ≤ 1000000000) ∧ ∀ (h2 : Heap), Heap.get h2 iL = IObj.tip (List.length (Prod.fst (putA l (Nd.mk op (immV iv im imms_1) ks))) * 3)
 → HF iL x.2.1 h2 → Q (.tuple [.vslice (some iL) (List.length (Prod.fst (putA l (Nd.mk op (immV iv im imms_1) ks))) * 3) (List.length (Prod.fst (putA l (Nd.mk op (immV iv im imms_1) ks)))) 3 (List.flatMap cN (Prod.fst (putA l (Nd.mk op (immV iv im imms_1) ks)))),
 IV.int .i64 (Prod.snd (putA l (Nd.mk op (immV iv im imms_1) ks)))]) h2))) := by kernel_rfl
set_option maxHeartbeats 2000000 in
theorem rRIns : ∀ d xs h Q, kRIns d xs h Q → CallW env 40 xs h Q := by
  intro d
  induction d with
  | zero =>
    intro xs h Q hk
    unfold kRIns at hk
    split at hk
    · rename_i iL e0 n0 c0 v op im iv io e1 n1 c1 n2 c2 n3 c3
      obtain ⟨l, ks, vars, imms, ⟨rfl, rfl, rfl⟩, ⟨rfl, rfl⟩, ⟨rfl, rfl⟩, ⟨rfl, rfl⟩, hs, hd, hb, hk⟩ := hk
      have := num_pos (T.mk v op im iv ks)
      omega
    · exact hk.elim
  | succ dd ih =>
    intro xs h Q hk
    unfold kRIns at hk
    split at hk
    · rename_i iL e0 n0 c0 v op im iv io e1 n1 c1 n2 c2 n3 c3
      obtain ⟨l, ks, vars, imms, ⟨rfl, rfl, rfl⟩, ⟨rfl, rfl⟩, ⟨rfl, rfl⟩, ⟨rfl, rfl⟩, hs, hd, hb, hk⟩ := hk
      refine dF_run (sound_add ih (okRInst)) (vRIns dd iL v op im iv ks io e1 vars imms l h Q) ?_
      delta z40a z40b z40c z40d z40e z40f z40g z40h z40i
      have tn : ∀ x : Nat, (x : Int).toNat = x := Int.toNat_natCast
      obtain ⟨hn1, hwi, hok⟩ := hd
      obtain ⟨hv, him, hlo, hbd, hvl, hil, hks⟩ := hb
      obtain ⟨hg, hlt0⟩ := hs
      have hnum : (T.mk v op im iv ks).num = nums ks + 1 := rfl
      have hlen := len_nums ks
      have eta : ∀ t : T, T.mk t.v t.op t.im t.iv t.ks = t := fun t => by cases t; rfl
      rw [hnum] at hn1 hbd
      refine brS_intro (fun cv => ?_) (fun cv => ?_)
      · rw [decide_eq_true_eq] at cv
        rw [instA_var cv] at hk
        have hlt : (v - 1).toNat < vars.length := by have := hwi.1; omega
        have hw : IntKind.i64.wrap (v - 1) = v - 1 := IntWalk.i64_in _ (by have := hwi.1; omega)
        rw [hw]
        refine needS_intro (by have := hwi.1; simp; omega) ?_
        rw [Nat.mul_one]
        refine ldIS_map hlt ?_
        have e : vars.getD (v - 1).toNat 0 = vars[(v - 1).toNat] := by rw [List.getD_eq_getElem?_getD, List.getElem?_eq_getElem hlt]; rfl
        rw [e] at hk
        exact hk h hg HF.refl
      · rw [decide_eq_false_iff_not] at cv
        have hv0 : v = 0 := by have := hwi.1; omega
        subst hv0
        have hwi2 : (0 ≤ iv ∧ iv ≤ imms.length) ∧ wis ks vars.length imms.length := by
          rcases hwi.2 with q | q
          · omega
          · exact q
        rw [instA_node cv] at hk
        have hkb : ∀ (kids : List Int) (i : Nat) (li : List Nd), IK ks vars imms l i li kids → kids.length ≤ 1000000 := by
          intro kids i li hik
          have h1 := hik.1.2.1
          have h2 := hik.1.2.2
          omega
        have fin : ∀ (g : Heap) (i : Nat) (li : List Nd) (kids : List Int), IK ks vars imms l i li kids → KB li → HF iL h g → ks.length ≤ i → g.get iL = .tip (li.length * 3) →
            ∃ (l_1 : List Nd) (ks_1 : List Int), (li.length * 3 = l_1.length * 3 ∧ li.length = l_1.length ∧ li.flatMap cN = l_1.flatMap cN) ∧ (kids.length = ks_1.length ∧ kids.map (IV.int .i64) = ks_1.map (IV.int .i64)) ∧ g.get iL = .tip (l_1.length * 3) ∧
              (l_1.length ≤ 1000000000 ∧ ks_1.length ≤ 1000000000 ∧ ∀ x ∈ l_1, x.ks.length ≤ 1000000000) ∧
              ∀ h2 : Heap, h2.get iL = .tip ((putA l_1 ⟨op, immV iv im imms, ks_1⟩).1.length * 3) → HF iL g h2 → Q (.tuple [.vslice (some iL) ((putA l_1 ⟨op, immV iv im imms, ks_1⟩).1.length * 3) (putA l_1 ⟨op, immV iv im imms, ks_1⟩).1.length 3 ((putA l_1 ⟨op, immV iv im imms, ks_1⟩).1.flatMap cN), .int .i64 (putA l_1 ⟨op, immV iv im imms, ks_1⟩).2]) h2 := by
          intro g i li kids hik hkb2 hf hle hgi
          have e := hik.last hle
          have hb := hik.2.2.2
          rw [e] at hk
          exact ⟨li, kids, ⟨rfl, rfl, rfl⟩, ⟨rfl, rfl⟩, hgi, ⟨by omega, by have := hkb kids i li hik; omega, fun x hx => by have := hkb2 x hx; omega⟩, fun h2 q1 q2 => hk h2 q1 (hf.trans q2)⟩
        have hkid : ∀ (i : Nat) (hlt : i < ks.length) (li : List Nd) (kids : List Int), IK ks vars imms l i li kids → KB li →
            (ks[i].num ≤ dd ∧ ks[i].wi vars.length imms.length ∧ ks[i].ok) ∧ (∀ x ∈ vars, i64b x) ∧ (∀ x ∈ imms, i64b x) ∧ (∀ x ∈ li, okN x) ∧ li.length + ks[i].num ≤ 1000000000 ∧ vars.length ≤ 1000 ∧ imms.length ≤ 1000 ∧ (KB li ∧ nums ks[i].ks ≤ 1000000) := by
          intro i hlt li kids hik hkb2
          have h1 := num_lt (List.getElem_mem hlt)
          have h2 : ks[i].num = nums ks[i].ks + 1 := by generalize ks[i] = t; cases t; rfl
          exact ⟨⟨by omega, wi_kid hwi2.2 (List.getElem_mem hlt), ok_kid hok.2 (List.getElem_mem hlt)⟩, hv, him, hik.2.1, (hik.step hlt hok.2 hv him).2, hvl, hil, hkb2, by omega⟩
        refine ⟨.inl ⟨(0, h, l), (by first | rfl | exact True.intro | (rw [IntWalk.i64_in _ (by omega)]; rfl)), (by first | rfl | exact True.intro | (rw [IntWalk.i64_in _ (by omega)]; rfl)), (by first | rfl | exact True.intro | (rw [IntWalk.i64_in _ (by omega)]; rfl)), (by first | rfl | exact True.intro | (rw [IntWalk.i64_in _ (by omega)]; rfl)), (by first | rfl | exact True.intro | (rw [IntWalk.i64_in _ (by omega)]; rfl)), (by first | rfl | exact True.intro | (rw [IntWalk.i64_in _ (by omega)]; rfl)), (by first | rfl | exact True.intro | (rw [IntWalk.i64_in _ (by omega)]; rfl)), (by first | rfl | exact True.intro | (rw [IntWalk.i64_in _ (by omega)]; rfl)), ⟨⟨⟨by simp, Nat.zero_le _, rfl⟩, hlo, by simp, by rw [List.drop_zero]; omega⟩, hg, HF.refl, hks.1⟩, trivial⟩, ?_, ?_⟩
        · rintro ⟨i, g, li⟩ _ ⟨hik, hgi, hfr, hkb2⟩
          dsimp only at hik hgi hfr hkb2 ⊢
          refine brS_intro (fun c => ?_) (fun c => ?_)
          · rw [decide_eq_true_eq] at c
            have hlt : i < ks.length := by omega
            simp only [tn]
            obtain ⟨k1, k2⟩ := hkid i hlt li [] hik hkb2
            refine needS_intro (by simp; omega) (ldT hlt rfl ⟨li, ks[i].ks, vars, imms, ⟨rfl, rfl, rfl⟩, ⟨rfl, rfl⟩, ⟨rfl, rfl⟩, ⟨rfl, rfl⟩, ⟨hgi, Nat.lt_of_lt_of_le hlt0 hfr.1⟩, by rw [eta]; exact k1, by rw [eta]; exact k2, fun g2 hg2 hf2 => .inr ⟨(i + 1, g2.push (.tip 1), (instA ks[i] vars imms li).1, [(instA ks[i] vars imms li).2], g2.next), ?_, (by first | rfl | exact True.intro | (rw [IntWalk.i64_in _ (by omega)]; rfl)), (by first | rfl | exact True.intro | (rw [IntWalk.i64_in _ (by omega)]; rfl)), (by first | rfl | exact True.intro | (rw [IntWalk.i64_in _ (by omega)]; rfl)), ?_, (by first | rfl | exact True.intro | (rw [IntWalk.i64_in _ (by omega)]; rfl)), (by first | rfl | exact True.intro | (rw [IntWalk.i64_in _ (by omega)]; rfl)), (by first | rfl | exact True.intro | (rw [IntWalk.i64_in _ (by omega)]; rfl)), ?_, ?_⟩⟩)
            · rw [eta]
            · rw [eta]; rfl
            · rw [eta] at hg2
              exact ⟨(hik.step hlt hok.2 hv him).1, by rw [get_push_lt (Nat.lt_of_lt_of_le (Nat.lt_of_lt_of_le hlt0 hfr.1) hf2.1)]; exact hg2, (hfr.trans hf2).trans HF.push, KB.step hkb2 (by have := num_lt (List.getElem_mem hlt); omega), get_push_eq, Nat.lt_succ_self _, Nat.le_trans hfr.1 hf2.1⟩
            · dsimp only
              omega
          · rw [decide_eq_false_iff_not] at c
            exact ⟨ks, [], imms, ⟨rfl, rfl⟩, ⟨rfl, rfl⟩, ⟨rfl, rfl⟩, ⟨hwi2.1.1, hwi2.1.2, hil⟩, fin g i li [] hik hkb2 hfr (by omega) hgi⟩
        · rintro ⟨i, g, li, kids, i3⟩ _ ⟨hik, hgi, hfr, hkb2, ht, htl, hth⟩
          dsimp only at hik hgi hfr hkb2 ht htl hth ⊢
          refine brS_intro (fun c => ?_) (fun c => ?_)
          · rw [decide_eq_true_eq] at c
            have hlt : i < ks.length := by omega
            simp only [tn]
            obtain ⟨k1, k2⟩ := hkid i hlt li kids hik hkb2
            have hne : i3 ≠ iL := by omega
            have hkl := hkb kids i li hik
            refine needS_intro (by simp; omega) (ldT hlt rfl ⟨li, ks[i].ks, vars, imms, ⟨rfl, rfl, rfl⟩, ⟨rfl, rfl⟩, ⟨rfl, rfl⟩, ⟨rfl, rfl⟩, ⟨hgi, Nat.lt_of_lt_of_le hlt0 hfr.1⟩, by rw [eta]; exact k1, by rw [eta]; exact k2, fun g2 hg2 hf2 => tip_intro ((hf2.2 i3 htl hne).trans ht)
              (needS_intro (by simp only [Nat.mul_one, Bool.and_eq_true, nbeq_t, Nat.ble_eq, true_and]; omega) (.inr ⟨(i + 1, g2.set i3 (.tip (kids.length + 1)), (instA ks[i] vars imms li).1, kids ++ [(instA ks[i] vars imms li).2], i3), ?_, (by first | rfl | exact True.intro | (rw [IntWalk.i64_in _ (by omega)]; rfl)), (by first | rfl | exact True.intro | (rw [IntWalk.i64_in _ (by omega)]; rfl)), (by first | rfl | exact True.intro | (rw [IntWalk.i64_in _ (by omega)]; rfl)), ?_, (by first | rfl | exact True.intro | (rw [IntWalk.i64_in _ (by omega)]; rfl)), (by first | rfl | exact True.intro | (rw [IntWalk.i64_in _ (by omega)]; rfl)), (by first | rfl | exact True.intro | (rw [IntWalk.i64_in _ (by omega)]; rfl)), ?_, ?_⟩))⟩)
            · rw [eta]
            · rw [eta]; simp
            · rw [eta] at hg2
              exact ⟨(hik.step hlt hok.2 hv him).1, by rw [get_set_ne hne.symm]; exact hg2, ⟨(hfr.trans hf2).1, fun j hj1 hj2 => by rw [get_set_ne (by omega)]; exact (hfr.trans hf2).2 j hj1 hj2⟩, KB.step hkb2 (by have := num_lt (List.getElem_mem hlt); omega), by rw [get_set_eq]; simp, Nat.lt_of_lt_of_le htl hf2.1, hth⟩
            · dsimp only
              omega
          · rw [decide_eq_false_iff_not] at c
            exact ⟨ks, kids, imms, ⟨rfl, rfl⟩, ⟨rfl, rfl⟩, ⟨rfl, rfl⟩, ⟨hwi2.1.1, hwi2.1.2, hil⟩, fin g i li kids hik hkb2 hfr (by omega) hgi⟩
    · exact hk.elim
def cRIns := addC 40 (fun xs h K => ∃ d, kRIns d xs h K) cRInst
theorem okRIns : Sound env cRIns := sound_add (fun xs h Q hk => hk.elim fun d hk => rRIns d xs h Q hk) (okRInst)

end Go.Proofs.Ytmfnadojephcpaa
