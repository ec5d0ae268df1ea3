/-
  Patterns: what the program's Instantiate computes.
  Conditions: none.
-/
import Derived.Test.YtmfnadojephcpaaG15
import Derived.KernelRfl
set_option linter.unusedVariables false
set_option linter.unusedSimpArgs false
namespace Go.Proofs.Ytmfnadojephcpaa
open Go.Pv Go.M15
def kPutN (xs : List IV) (h : Heap) (K : IV → Heap → Prop) : Prop := match xs with
  | [.ptr id 0, .agg [.int .i64 op, .int .i64 im, .nilslice]] => ∃ (m iL : Nat) (vars imms : List Int) (l : List Nd), IS h id m iL vars imms l ∧ (okN ⟨op, im, ([] : List Int)⟩ ∧ (∀ x ∈ l, okN x) ∧ l.length ≤ 1000000000 ∧ (([] : List Int)).length ≤ 1000000000) ∧
   ∀ h2 : Heap, IS h2 id m iL vars imms (putA l ⟨op, im, ([] : List Int)⟩).1 → FR3 id m iL h h2 → K (.int .i64 (putA l ⟨op, im, ([] : List Int)⟩).2) h2
  | _ => False
set_option maxRecDepth 100000 in
theorem vPutN (id : Nat) (op im : Int) (h : Heap) (Q : IV → Heap → Prop) : dF (stdS cSameNds) env 50 noU noI noI [.ptr id 0, .agg [.int .i64 op, .int .i64 im, .nilslice]] h Q = (
  ∃ (ks : List Int),
 ((0 : Nat) = List.length ks ∧ [] = List.map (IV.int IntKind.i64) ks) ∧
 List.length ks ≤ (1000000000 : Nat) ∧
 ∀ (s : List UInt8),
 isKy (Nd.mk op im ks) s →
 hgetS h id fun (r0 : List IV) =>
 ldMS r0 (1 : Nat) fun (i1 : Nat) =>
 mlookS h i1 TypeDesc.string (IV.str s) (fun (r2 : List IV) => ldIS IntKind.i64 r2 (0 : Nat) fun (n3 : Int) => Q (IV.int IntKind.i64 n3) h)
 (hgetS h id fun (r4 : List IV) =>
 ldVS (3 : Nat) r4 (0 : Nat) fun (i5 : Option Nat) (e6 l7 : Nat) (c8 : List IV) =>
 hgetS h id fun (r9 : List IV) =>
 ldMS r9 (1 : Nat) fun (i10 : Nat) =>
 mupdS h i10 TypeDesc.string (IV.str s) (IV.int IntKind.i64 (↑l7 : Int)) fun (es11 : List (IV × IV)) =>
 hgetS (Heap.set h i10 (IObj.map es11)) id fun (r12 : List IV) =>
 ldNVS (3 : Nat) r12 (0 : Nat)
 (hgetS (Heap.push (Heap.set h i10 (IObj.map es11)) (IObj.tip (3 : Nat))) id fun (r13 : List IV) =>
 needS (Nat.ble (1 : Nat) (List.length r13))
 (Q (IV.int IntKind.i64 (↑l7 : Int))
 (Heap.set (Heap.push (Heap.set h i10 (IObj.map es11)) (IObj.tip (3 : Nat))) id
 (IObj.cells (IV.vslice (some (Heap.next h)) (3 : Nat) (1 : Nat) (3 : Nat) [IV.int IntKind.i64 op, IV.int IntKind.i64 im, IV.vslice none (0 : Nat) (0 : Nat) (1 : Nat) []] :: List.drop (1 : Nat) r13)))))
 fun (i14 e15 l16 : Nat) (c17 : List IV) =>
 tipS (Heap.set h i10 (IObj.map es11)) i14 fun (m18 : Nat) =>
 needS (Nat.beq m18 e15 && Nat.ble ((l16 + (1 : Nat)) * (40 : Nat)) (140737488355328 : Nat))
 (hgetS (Heap.set (Heap.set h i10 (IObj.map es11)) i14 (IObj.tip (e15 + (3 : Nat)))) id fun (r19 : List IV) =>
 needS (Nat.ble (1 : Nat) (List.length r19))
 (Q (IV.int IntKind.i64 (↑l7 : Int))
 (Heap.set (Heap.set (Heap.set h i10 (IObj.map es11)) i14 (IObj.tip (e15 + (3 : Nat)))) id
 (IObj.cells
 (IV.vslice (some i14) (e15 + (3 : Nat)) (l16 + (1 : Nat)) (3 : Nat) (c17 ++ [IV.int IntKind.i64 op, IV.int IntKind.i64 im, IV.vslice none (0 : Nat) (0 : Nat) (1 : Nat) []]) ::
 List.drop (1 : Nat) r19))))))) := by kernel_rfl
set_option maxHeartbeats 2000000 in
theorem sPutN : ∀ xs h Q, kPutN xs h Q → CallW env 50 xs h Q := by
  intro xs h Q hk
  unfold kPutN at hk
  split at hk
  · rename_i id op im
    obtain ⟨m, iL, vars, imms, l, hs, ⟨hn, hl, hll, hkl⟩, hk⟩ := hk
    refine dF_run (okSameNds) (vPutN id op im h Q) ?_
    have hlk := look_ixm hn hl
    obtain ⟨n1, n2, n3⟩ := hs.ne
    have hs0 := hs
    obtain ⟨⟨b1, b2, b3⟩, h1, h2, h3⟩ := hs
    refine ⟨[], ⟨rfl, rfl⟩, hkl, fun s hsk => hget_intro h1 (ldM_at rfl ?_)⟩
    unfold isKy at hsk
    subst hsk
    cases e : fidx ⟨op, im, ([] : List Int)⟩ l 0 with
    | some i =>
      rw [e] at hlk
      refine mlook_some h3 (by rw [find_cE, hlk]; rfl) (ldI_at rfl ?_)
      unfold putA at hk
      rw [e] at hk
      exact hk h hs0 FR3.refl
    | none =>
      rw [e] at hlk
      unfold putA at hk
      rw [e] at hk
      refine mlook_none h3 (by rw [find_cE, hlk]; rfl) ?_
      have q1 : (h.set m (.map (cE (ixm l ++ [(keyF ⟨op, im, ([] : List Int)⟩, (l.length : Int))])))).get id = .cells [.vslice (some iL) (l.length * 3) l.length 3 (l.flatMap cN), .map m, .vslice none 0 vars.length 1 (vars.map (IV.int .i64)), .vslice none 0 imms.length 1 (imms.map (IV.int .i64))] := by rw [get_set_ne n1, h1]
      have q2 : (h.set m (.map (cE (ixm l ++ [(keyF ⟨op, im, ([] : List Int)⟩, (l.length : Int))])))).get iL = .tip (l.length * 3) := by rw [get_set_ne n3.symm, h2]
      refine hget_intro h1 (ldV_at rfl (hget_intro h1 (ldM_at rfl (mupd_intro h3 (upd_cE _ _ _ (by rw [hlk]; rfl)) (hget_intro q1 (ldNV_v rfl (tip_intro q2 (needS_intro (by simp only [Bool.and_eq_true, nbeq_t, Nat.ble_eq, true_and]; omega) (hget_intro (by rw [get_set_ne n2, q1]) (needS_intro rfl (hk _ (hs0.app hn hl e _ h1) ?_)))))))))))
      refine ⟨Nat.le_refl _, fun j hj1 hj2 hj3 hj4 => ?_⟩
      rw [get_set_ne hj2, get_set_ne hj4, get_set_ne hj3]
  · exact hk.elim
def cPutN := addC 50 kPutN cSameNds
theorem okPutN : Sound env cPutN := sound_add sPutN (okSameNds)

def kPutV (xs : List IV) (h : Heap) (K : IV → Heap → Prop) : Prop := match xs with
  | [.ptr id 0, .agg [.int .i64 op, .int .i64 im, .vslice io e1 n1 1 c1]] => ∃ ks : List Int, (n1 = ks.length ∧ c1 = ks.map (IV.int .i64)) ∧ ∃ (m iL : Nat) (vars imms : List Int) (l : List Nd), IS h id m iL vars imms l ∧ (okN ⟨op, im, ks⟩ ∧ (∀ x ∈ l, okN x) ∧ l.length ≤ 1000000000 ∧ (ks).length ≤ 1000000000) ∧
   ∀ h2 : Heap, IS h2 id m iL vars imms (putA l ⟨op, im, ks⟩).1 → FR3 id m iL h h2 → K (.int .i64 (putA l ⟨op, im, ks⟩).2) h2
  | _ => False
set_option maxRecDepth 100000 in
theorem vPutV (id : Nat) (op im : Int) (io : Option Nat) (e1 : Nat) (ks : List Int) (h : Heap) (Q : IV → Heap → Prop) : dF (stdS cPutN) env 50 noU noI noI [.ptr id 0, .agg [.int .i64 op, .int .i64 im, .vslice io e1 ks.length 1 (ks.map (IV.int .i64))]] h Q = (
  ∃ (ks_1 : List Int),
 (List.length ks = List.length ks_1 ∧ List.map (IV.int IntKind.i64) ks = List.map (IV.int IntKind.i64) ks_1) ∧
 List.length ks_1 ≤ (1000000000 : Nat) ∧
 ∀ (s : List UInt8),
 isKy (Nd.mk op im ks_1) s →
 hgetS h id fun (r0 : List IV) =>
 ldMS r0 (1 : Nat) fun (i1 : Nat) =>
 mlookS h i1 TypeDesc.string (IV.str s) (fun (r2 : List IV) => ldIS IntKind.i64 r2 (0 : Nat) fun (n3 : Int) => Q (IV.int IntKind.i64 n3) h)
 (hgetS h id fun (r4 : List IV) =>
 ldVS (3 : Nat) r4 (0 : Nat) fun (i5 : Option Nat) (e6 l7 : Nat) (c8 : List IV) =>
 hgetS h id fun (r9 : List IV) =>
 ldMS r9 (1 : Nat) fun (i10 : Nat) =>
 mupdS h i10 TypeDesc.string (IV.str s) (IV.int IntKind.i64 (↑l7 : Int)) fun (es11 : List (IV × IV)) =>
 hgetS (Heap.set h i10 (IObj.map es11)) id fun (r12 : List IV) =>
 ldNVS (3 : Nat) r12 (0 : Nat)
 (hgetS (Heap.push (Heap.set h i10 (IObj.map es11)) (IObj.tip (3 : Nat))) id fun (r13 : List IV) =>
 needS (Nat.ble (1 : Nat) (List.length r13))
 (Q (IV.int IntKind.i64 (↑l7 : Int))
 (Heap.set (Heap.push (Heap.set h i10 (IObj.map es11)) (IObj.tip (3 : Nat))) id
 (IObj.cells
 (IV.vslice (some (Heap.next h)) (3 : Nat) (1 : Nat) (3 : Nat) [IV.int IntKind.i64 op, IV.int IntKind.i64 im, IV.vslice none (0 : Nat) (List.length ks) (1 : Nat) (List.map (IV.int IntKind.i64) ks)] ::
 List.drop (1 : Nat) r13)))))
 fun (i14 e15 l16 : Nat) (c17 : List IV) =>
 tipS (Heap.set h i10 (IObj.map es11)) i14 fun (m18 : Nat) =>
 needS (Nat.beq m18 e15 && Nat.ble ((l16 + (1 : Nat)) * (40 : Nat)) (140737488355328 : Nat))
 (hgetS (Heap.set (Heap.set h i10 (IObj.map es11)) i14 (IObj.tip (e15 + (3 : Nat)))) id fun (r19 : List IV) =>
 needS (Nat.ble (1 : Nat) (List.length r19))
 (Q (IV.int IntKind.i64 (↑l7 : Int))
 (Heap.set (Heap.set (Heap.set h i10 (IObj.map es11)) i14 (IObj.tip (e15 + (3 : Nat)))) id
 (IObj.cells
 (IV.vslice (some i14) (e15 + (3 : Nat)) (l16 + (1 : Nat)) (3 : Nat)
 (c17 ++ [IV.int IntKind.i64 op, IV.int IntKind.i64 im, IV.vslice none (0 : Nat) (List.length ks) (1 : Nat) (List.map (IV.int IntKind.i64) ks)]) ::
 List.drop (1 : Nat) r19))))))) := by kernel_rfl
set_option maxHeartbeats 2000000 in
theorem sPutV : ∀ xs h Q, kPutV xs h Q → CallW env 50 xs h Q := by
  intro xs h Q hk
  unfold kPutV at hk
  split at hk
  · rename_i id op im io e1 n1 c1
    obtain ⟨ks, ⟨rfl, rfl⟩, m, iL, vars, imms, l, hs, ⟨hn, hl, hll, hkl⟩, hk⟩ := hk
    refine dF_run (okPutN) (vPutV id op im io e1 ks h Q) ?_
    have hlk := look_ixm hn hl
    obtain ⟨n1, n2, n3⟩ := hs.ne
    have hs0 := hs
    obtain ⟨⟨b1, b2, b3⟩, h1, h2, h3⟩ := hs
    refine ⟨ks, ⟨rfl, rfl⟩, hkl, fun s hsk => hget_intro h1 (ldM_at rfl ?_)⟩
    unfold isKy at hsk
    subst hsk
    cases e : fidx ⟨op, im, ks⟩ l 0 with
    | some i =>
      rw [e] at hlk
      refine mlook_some h3 (by rw [find_cE, hlk]; rfl) (ldI_at rfl ?_)
      unfold putA at hk
      rw [e] at hk
      exact hk h hs0 FR3.refl
    | none =>
      rw [e] at hlk
      unfold putA at hk
      rw [e] at hk
      refine mlook_none h3 (by rw [find_cE, hlk]; rfl) ?_
      have q1 : (h.set m (.map (cE (ixm l ++ [(keyF ⟨op, im, ks⟩, (l.length : Int))])))).get id = .cells [.vslice (some iL) (l.length * 3) l.length 3 (l.flatMap cN), .map m, .vslice none 0 vars.length 1 (vars.map (IV.int .i64)), .vslice none 0 imms.length 1 (imms.map (IV.int .i64))] := by rw [get_set_ne n1, h1]
      have q2 : (h.set m (.map (cE (ixm l ++ [(keyF ⟨op, im, ks⟩, (l.length : Int))])))).get iL = .tip (l.length * 3) := by rw [get_set_ne n3.symm, h2]
      refine hget_intro h1 (ldV_at rfl (hget_intro h1 (ldM_at rfl (mupd_intro h3 (upd_cE _ _ _ (by rw [hlk]; rfl)) (hget_intro q1 (ldNV_v rfl (tip_intro q2 (needS_intro (by simp only [Bool.and_eq_true, nbeq_t, Nat.ble_eq, true_and]; omega) (hget_intro (by rw [get_set_ne n2, q1]) (needS_intro rfl (hk _ (hs0.app hn hl e _ h1) ?_)))))))))))
      refine ⟨Nat.le_refl _, fun j hj1 hj2 hj3 hj4 => ?_⟩
      rw [get_set_ne hj2, get_set_ne hj4, get_set_ne hj3]
  · exact hk.elim
def cPutV := addC 50 kPutV cPutN
theorem okPutV : Sound env cPutV := sound_add sPutV (okPutN)

def kPut (xs : List IV) (h : Heap) (K : IV → Heap → Prop) : Prop := match xs with
  | [.ptr id 0, .agg [.int .i64 op, .int .i64 im, s]] => match s with | .nilslice => kPutN [.ptr id 0, .agg [.int .i64 op, .int .i64 im, .nilslice]] h K | .vslice io e len z cs => kPutV [.ptr id 0, .agg [.int .i64 op, .int .i64 im, .vslice io e len z cs]] h K | _ => False
  | _ => False
theorem sPut : ∀ xs h Q, kPut xs h Q → CallW env 50 xs h Q := by
  intro xs h Q hk
  unfold kPut at hk
  split at hk
  · rename_i id op im s
    split at hk
    · exact sPutN _ _ _ hk
    · exact sPutV _ _ _ hk
    · exact hk.elim
  · exact hk.elim
def cPut := addC 50 kPut cPutV
theorem okPut : Sound env cPut := sound_add sPut (okPutV)

def inCut (id : Nat) (v op im iv : Int) (ks : List T) (io : Option Nat) (e1 : Nat) (imms : List Int) (h : Heap) : Inv' := atX Int (fun x => [(0, .v (.ptr id 0)), (3, .l 3 0), (5, .l 5 0)]) (fun x => [(3, [.int .i64 v, .int .i64 op, .int .i64 im, .int .i64 iv, .vslice io e1 ks.length 5 (cTs ks)]), (5, [.int .i64 op, .int .i64 x, .nilslice])]) (fun _ => h) (fun x => x = immV iv im imms) (fun _ => 0)
def inInv (id : Nat) (v op im iv : Int) (ks : List T) (io : Option Nat) (e1 : Nat) (m iL : Nat) (vars imms : List Int) (l : List Nd) (h : Heap) : Inv' := .or
  (atX (Nat × Heap × List Nd × Int) (fun x => [(0, .v (.ptr id 0)), (5, .l 5 0), (39, .v (.vslice io e1 ks.length 5 (cTs ks))), (40, .v (.int .i64 ks.length)), (41, .v (.int .i64 x.1))]) (fun x => [(5, [.int .i64 op, .int .i64 x.2.2.2, .nilslice])]) (fun x => x.2.1)
    (fun x => IK ks vars imms l x.1 x.2.2.1 [] ∧ IS x.2.1 id m iL vars imms x.2.2.1 ∧ FR3 id m iL h x.2.1 ∧ x.2.2.2 = immV iv im imms) (fun x => ks.length - x.1))
  (atX (Nat × Heap × List Nd × Int × List Int × Nat) (fun x => [(0, .v (.ptr id 0)), (5, .l 5 0), (39, .v (.vslice io e1 ks.length 5 (cTs ks))), (40, .v (.int .i64 ks.length)), (41, .v (.int .i64 x.1))]) (fun x => [(5, [.int .i64 op, .int .i64 x.2.2.2.1, .vslice (some x.2.2.2.2.2) x.2.2.2.2.1.length x.2.2.2.2.1.length 1 (x.2.2.2.2.1.map (IV.int .i64))])]) (fun x => x.2.1)
    (fun x => IK ks vars imms l x.1 x.2.2.1 x.2.2.2.2.1 ∧ IS x.2.1 id m iL vars imms x.2.2.1 ∧ FR3 id m iL h x.2.1 ∧ x.2.2.2.1 = immV iv im imms ∧ x.2.1.get x.2.2.2.2.2 = .tip x.2.2.2.2.1.length ∧ x.2.2.2.2.2 < x.2.1.next ∧ h.next ≤ x.2.2.2.2.2) (fun x => ks.length - x.1))
def kInst (d : Nat) (xs : List IV) (h : Heap) (K : IV → Heap → Prop) : Prop := match xs with
  | [.ptr id 0, .agg [.int .i64 v, .int .i64 op, .int .i64 im, .int .i64 iv, .vslice io e1 n1 5 c1]] => ∃ (ks : List T) (m iL : Nat) (vars imms : List Int) (l : List Nd), (n1 = ks.length ∧ c1 = cTs ks) ∧ IS h id m iL vars imms l ∧ ((T.mk v op im iv ks).num ≤ d ∧ (T.mk v op im iv ks).wi vars.length imms.length ∧ (T.mk v op im iv ks).ok) ∧
   ((∀ x ∈ vars, i64b x) ∧ (∀ x ∈ imms, i64b x) ∧ (∀ x ∈ l, okN x) ∧ l.length + (T.mk v op im iv ks).num ≤ 1000000000 ∧ vars.length ≤ 1000 ∧ imms.length ≤ 1000) ∧
   ∀ h2 : Heap, IS h2 id m iL vars imms (instA (T.mk v op im iv ks) vars imms l).1 → FR3 id m iL h h2 → K (.int .i64 (instA (T.mk v op im iv ks) vars imms l).2) h2
  | _ => False
set_option maxRecDepth 100000 in
theorem vInst (dd : Nat) (id : Nat) (v op im iv : Int) (ks : List T) (io : Option Nat) (e1 : Nat) (m iL : Nat) (vars imms : List Int) (l : List Nd) (h : Heap) (Q : IV → Heap → Prop) : dF (stdS (addC 39 (kInst dd) cPut)) env 39 noU (ic1 8 (inInv id v op im iv ks io e1 m iL vars imms l h)) (ic1 7 (inCut id v op im iv ks io e1 imms h)) [.ptr id 0, .agg [.int .i64 v, .int .i64 op, .int .i64 im, .int .i64 iv, .vslice io e1 ks.length 5 (cTs ks)]] h Q = (
  brS (decide (v > (0 : Int)))
 (hgetS h id fun (r0 : List IV) =>
 ldVS (1 : Nat) r0 (2 : Nat) fun (i1 : Option Nat) (e2 l3 : Nat) (c4 : List IV) =>
 needS (decide ((0 : Int) ≤ IntKind.wrap IntKind.i64 (v - (1 : Int))) && decide (IntKind.wrap IntKind.i64 (v - (1 : Int)) < (↑l3 : Int)))
 (ldIS IntKind.i64 c4 (Int.toNat (IntKind.wrap IntKind.i64 (v - (1 : Int))) * (1 : Nat)) fun (n5 : Int) => Q (IV.int IntKind.i64 n5) h))
 (brS (decide (iv > (0 : Int)))
 (hgetS h id fun (r6 : List IV) =>
 ldVS (1 : Nat) r6 (3 : Nat) fun (i7 : Option Nat) (e8 l9 : Nat) (c10 : List IV) =>
 needS (decide ((0 : Int) ≤ IntKind.wrap IntKind.i64 (iv - (1 : Int))) && decide (IntKind.wrap IntKind.i64 (iv - (1 : Int)) < (↑l9 : Int)))
 (ldIS IntKind.i64 c10 (Int.toNat (IntKind.wrap IntKind.i64 (iv - (1 : Int))) * (1 : Nat)) fun (n11 : Int) =>
 ∃ (x : Int),
 some (TV.v (IV.ptr id (0 : Nat))) = some (TV.v (IV.ptr id (0 : Nat))) ∧
 some (TV.l (3 : Nat) (0 : Nat)) = some (TV.l (3 : Nat) (0 : Nat)) ∧
 some (TV.l (5 : Nat) (0 : Nat)) = some (TV.l (5 : Nat) (0 : Nat)) ∧
 some [IV.int IntKind.i64 v, IV.int IntKind.i64 op, IV.int IntKind.i64 im, IV.int IntKind.i64 iv, IV.vslice io e1 (List.length ks) (5 : Nat) (cTs ks)] =
 some [IV.int IntKind.i64 v, IV.int IntKind.i64 op, IV.int IntKind.i64 im, IV.int IntKind.i64 iv, IV.vslice io e1 (List.length ks) (5 : Nat) (cTs ks)] ∧
 some [IV.int IntKind.i64 op, IV.int IntKind.i64 n11, IV.nilslice] = some [IV.int IntKind.i64 op, IV.int IntKind.i64 x, IV.nilslice] ∧ h = h ∧ x = immV iv im imms ∧ True))
 (∃ (x : Int),
 some (TV.v (IV.ptr id (0 : Nat))) = some (TV.v (IV.ptr id (0 : Nat))) ∧
 some (TV.l (3 : Nat) (0 : Nat)) = some (TV.l (3 : Nat) (0 : Nat)) ∧
 some (TV.l (5 : Nat) (0 : Nat)) = some (TV.l (5 : Nat) (0 : Nat)) ∧
 some [IV.int IntKind.i64 v, IV.int IntKind.i64 op, IV.int IntKind.i64 im, IV.int IntKind.i64 iv, IV.vslice io e1 (List.length ks) (5 : Nat) (cTs ks)] =
 some [IV.int IntKind.i64 v, IV.int IntKind.i64 op, IV.int IntKind.i64 im, IV.int IntKind.i64 iv, IV.vslice io e1 (List.length ks) (5 : Nat) (cTs ks)] ∧
 some [IV.int IntKind.i64 op, IV.int IntKind.i64 im, IV.nilslice] = some [IV.int IntKind.i64 op, IV.int IntKind.i64 x, IV.nilslice] ∧ h = h ∧ x = immV iv im imms ∧ True) ∧
 ∀ (x : Int) (b : FF),
 x = immV iv im imms →
 ((∃ (x_1 : Nat × Heap × List Nd × Int),
 some (TV.v (IV.ptr id (0 : Nat))) = some (TV.v (IV.ptr id (0 : Nat))) ∧
 some (TV.l (5 : Nat) (0 : Nat)) = some (TV.l (5 : Nat) (0 : Nat)) ∧
 some (TV.v (IV.vslice io e1 (List.length ks) (5 : Nat) (cTs ks))) = some (TV.v (IV.vslice io e1 (List.length ks) (5 : Nat) (cTs ks))) ∧
 some (TV.v (IV.int IntKind.i64 (↑(List.length ks) : Int))) = some (TV.v (IV.int IntKind.i64 (↑(List.length ks) : Int))) ∧
 some (TV.v (IV.int IntKind.i64 (0 : Int))) = some (TV.v (IV.int IntKind.i64 (↑(Prod.fst x_1) : Int))) ∧
 some [IV.int IntKind.i64 op, IV.int IntKind.i64 x, IV.nilslice] = some [IV.int IntKind.i64 op, IV.int IntKind.i64 (Prod.snd (Prod.snd (Prod.snd x_1))), IV.nilslice] ∧
 h = Prod.fst (Prod.snd x_1) ∧
 (IK ks vars imms l (Prod.fst x_1) (Prod.fst (Prod.snd (Prod.snd x_1))) [] ∧
 IS (Prod.fst (Prod.snd x_1)) id m iL vars imms (Prod.fst (Prod.snd (Prod.snd x_1))) ∧ FR3 id m iL h (Prod.fst (Prod.snd x_1)) ∧ Prod.snd (Prod.snd (Prod.snd x_1)) = immV iv im imms) ∧
 True) ∨
 ∃ (x_1 : Nat × Heap × List Nd × Int × List Int × Nat),
 some (TV.v (IV.ptr id (0 : Nat))) = some (TV.v (IV.ptr id (0 : Nat))) ∧
 some (TV.l (5 : Nat) (0 : Nat)) = some (TV.l (5 : Nat) (0 : Nat)) ∧
 some (TV.v (IV.vslice io e1 (List.length ks) (5 : Nat) (cTs ks))) = some (TV.v (IV.vslice io e1 (List.length ks) (5 : Nat) (cTs ks))) ∧
 some (TV.v (IV.int IntKind.i64 (↑(List.length ks) : Int))) = some (TV.v (IV.int IntKind.i64 (↑(List.length ks) : Int))) ∧
 some (TV.v (IV.int IntKind.i64 (0 : Int))) = some (TV.v (IV.int IntKind.i64 (↑(Prod.fst x_1) : Int))) ∧
 some [IV.int IntKind.i64 op, IV.int IntKind.i64 x, IV.nilslice] =
 some
 [IV.int IntKind.i64 op, IV.int IntKind.i64 (Prod.fst (Prod.snd (Prod.snd (Prod.snd x_1)))),
 IV.vslice (some (Prod.snd (Prod.snd (Prod.snd (Prod.snd (Prod.snd x_1)))))) (List.length (Prod.fst (Prod.snd (Prod.snd (Prod.snd (Prod.snd x_1))))))
 (List.length (Prod.fst (Prod.snd (Prod.snd (Prod.snd (Prod.snd x_1)))))) (1 : Nat) (List.map (IV.int IntKind.i64) (Prod.fst (Prod.snd (Prod.snd (Prod.snd (Prod.snd x_1))))))] ∧
 h = Prod.fst (Prod.snd x_1) ∧
 (IK ks vars imms l (Prod.fst x_1) (Prod.fst (Prod.snd (Prod.snd x_1))) (Prod.fst (Prod.snd (Prod.snd (Prod.snd (Prod.snd x_1))))) ∧
 IS (Prod.fst (Prod.snd x_1)) id m iL vars imms (Prod.fst (Prod.snd (Prod.snd x_1))) ∧
 FR3 id m iL h (Prod.fst (Prod.snd x_1)) ∧
 Prod.fst (Prod.snd (Prod.snd (Prod.snd x_1))) = immV iv im imms ∧
 Heap.get (Prod.fst (Prod.snd x_1)) (Prod.snd (Prod.snd (Prod.snd (Prod.snd (Prod.snd x_1))))) = IObj.tip (List.length (Prod.fst (Prod.snd (Prod.snd (Prod.snd (Prod.snd x_1)))))) ∧
 Prod.snd (Prod.snd (Prod.snd (Prod.snd (Prod.snd x_1)))) < Heap.next (Prod.fst (Prod.snd x_1)) ∧ Heap.next h ≤ Prod.snd (Prod.snd (Prod.snd (Prod.snd (Prod.snd x_1))))) ∧
 True) ∧
 (∀ (x : Nat × Heap × List Nd × Int) (b : FF),
 IK ks vars imms l (Prod.fst x) (Prod.fst (Prod.snd (Prod.snd x))) [] ∧
 IS (Prod.fst (Prod.snd x)) id m iL vars imms (Prod.fst (Prod.snd (Prod.snd x))) ∧ FR3 id m iL h (Prod.fst (Prod.snd x)) ∧ Prod.snd (Prod.snd (Prod.snd x)) = immV iv im imms →
 brS (decide ((↑(Prod.fst x) : Int) < (↑(List.length ks) : Int)))
 (needS (decide ((0 : Int) ≤ (↑(Prod.fst x) : Int)) && decide ((↑(Prod.fst x) : Int) < (↑(List.length ks) : Int)))
 (ldIS IntKind.i64 (cTs ks) (Int.toNat (↑(Prod.fst x) : Int) * (5 : Nat)) fun (n12 : Int) =>
 ldIS IntKind.i64 (cTs ks) (Int.toNat (↑(Prod.fst x) : Int) * (5 : Nat) + (1 : Nat)) fun (n13 : Int) =>
 ldIS IntKind.i64 (cTs ks) (Int.toNat (↑(Prod.fst x) : Int) * (5 : Nat) + (1 : Nat) + (1 : Nat)) fun (n14 : Int) =>
 ldIS IntKind.i64 (cTs ks) (Int.toNat (↑(Prod.fst x) : Int) * (5 : Nat) + (1 : Nat) + (1 : Nat) + (1 : Nat)) fun (n15 : Int) =>
 ldVS (5 : Nat) (cTs ks) (Int.toNat (↑(Prod.fst x) : Int) * (5 : Nat) + (1 : Nat) + (1 : Nat) + (1 : Nat) + (1 : Nat)) fun (i16 : Option Nat) (e17 l18 : Nat) (c19 : List IV) =>
 ∃ (ks_1 : List T),
 ∃ (m_1 : Nat),
 ∃ (iL_1 : Nat),
 ∃ (vars_1 : List Int),
 ∃ (imms_1 : List Int),
 ∃ (l_1 : List Nd),
 (l18 = List.length ks_1 ∧ c19 = cTs ks_1) ∧
 IS (Prod.fst (Prod.snd x)) id m_1 iL_1 vars_1 imms_1 l_1 ∧
 (T.num (T.mk n12 n13 n14 n15 ks_1) ≤ dd ∧ T.wi (T.mk n12 n13 n14 n15 ks_1) (↑(List.length vars_1) : Int) (↑(List.length imms_1) : Int) ∧ T.ok (T.mk n12 n13 n14 n15 ks_1)) ∧
 ((∀ (x : Int), x ∈ vars_1 → i64b x) ∧
 (∀ (x : Int), x ∈ imms_1 → i64b x) ∧
 (∀ (x : Nd), x ∈ l_1 → okN x) ∧ List.length l_1 + T.num (T.mk n12 n13 n14 n15 ks_1) ≤ (1000000000 : Nat) ∧ List.length vars_1 ≤ (1000 : Nat) ∧ List.length imms_1 ≤ (1000 : Nat)) ∧
 ∀ (h2 : Heap),
 IS h2 id m_1 iL_1 vars_1 imms_1 (Prod.fst (instA (T.mk n12 n13 n14 n15 ks_1) vars_1 imms_1 l_1)) →
 FR3 id m_1 iL_1 (Prod.fst (Prod.snd x)) h2 →
 (∃ (x_1 : Nat × Heap × List Nd × Int),
 some (TV.v (IV.ptr id (0 : Nat))) = some (TV.v (IV.ptr id (0 : Nat))) ∧
 some (TV.l (5 : Nat) (0 : Nat)) = some (TV.l (5 : Nat) (0 : Nat)) ∧
 some (TV.v (IV.vslice io e1 (List.length ks) (5 : Nat) (cTs ks))) = some (TV.v (IV.vslice io e1 (List.length ks) (5 : Nat) (cTs ks))) ∧
 some (TV.v (IV.int IntKind.i64 (↑(List.length ks) : Int))) = some (TV.v (IV.int IntKind.i64 (↑(List.length ks) : Int))) ∧
 some (TV.v (IV.int IntKind.i64 (IntKind.wrap IntKind.i64 ((↑(Prod.fst x) : Int) + (1 : Int))))) = some (TV.v (IV.int IntKind.i64 (↑(Prod.fst x_1) : Int))) ∧
 some
 [IV.int IntKind.i64 op, IV.int IntKind.i64 (Prod.snd (Prod.snd (Prod.snd x))),
 IV.vslice (some (Heap.next h2)) (1 : Nat) (1 : Nat) (1 : Nat) [IV.int IntKind.i64 (Prod.snd (instA (T.mk n12 n13 n14 n15 ks_1) vars_1 imms_1 l_1))]] =
 some [IV.int IntKind.i64 op, IV.int IntKind.i64 (Prod.snd (Prod.snd (Prod.snd x_1))), IV.nilslice] ∧
 Heap.push h2 (IObj.tip (1 : Nat)) = Prod.fst (Prod.snd x_1) ∧
 (IK ks vars imms l (Prod.fst x_1) (Prod.fst (Prod.snd (Prod.snd x_1))) [] ∧
 IS (Prod.fst (Prod.snd x_1)) id m iL vars imms (Prod.fst (Prod.snd (Prod.snd x_1))) ∧
 FR3 id m iL h (Prod.fst (Prod.snd x_1)) ∧ Prod.snd (Prod.snd (Prod.snd x_1)) = immV iv im imms) ∧
 List.length ks - Prod.fst x_1 < List.length ks - Prod.fst x) ∨
 ∃ (x_1 : Nat × Heap × List Nd × Int × List Int × Nat),
 some (TV.v (IV.ptr id (0 : Nat))) = some (TV.v (IV.ptr id (0 : Nat))) ∧
 some (TV.l (5 : Nat) (0 : Nat)) = some (TV.l (5 : Nat) (0 : Nat)) ∧
 some (TV.v (IV.vslice io e1 (List.length ks) (5 : Nat) (cTs ks))) = some (TV.v (IV.vslice io e1 (List.length ks) (5 : Nat) (cTs ks))) ∧
 some (TV.v (IV.int IntKind.i64 (↑(List.length ks) : Int))) = some (TV.v (IV.int IntKind.i64 (↑(List.length ks) : Int))) ∧
 some (TV.v (IV.int IntKind.i64 (IntKind.wrap IntKind.i64 ((↑(Prod.fst x) : Int) + (1 : Int))))) = some (TV.v (IV.int IntKind.i64 (↑(Prod.fst x_1) : Int))) ∧
 some
 [IV.int IntKind.i64 op, IV.int IntKind.i64 (Prod.snd (Prod.snd (Prod.snd x))),
 IV.vslice (some (Heap.next h2)) (1 : Nat) (1 : Nat) (1 : Nat) [IV.int IntKind.i64 (Prod.snd (instA (T.mk n12 n13 n14 n15 ks_1) vars_1 imms_1 l_1))]] =
 some
 [IV.int IntKind.i64 op, IV.int IntKind.i64 (Prod.fst (Prod.snd (Prod.snd (Prod.snd x_1)))),
 IV.vslice (some (Prod.snd (Prod.snd (Prod.snd (Prod.snd (Prod.snd x_1)))))) (List.length (Prod.fst (Prod.snd (Prod.snd (Prod.snd (Prod.snd x_1))))))
 (List.length (Prod.fst (Prod.snd (Prod.snd (Prod.snd (Prod.snd x_1)))))) (1 : Nat)
 (List.map (IV.int IntKind.i64) (Prod.fst (Prod.snd (Prod.snd (Prod.snd (Prod.snd x_1))))))] ∧
 Heap.push h2 (IObj.tip (1 : Nat)) = Prod.fst (Prod.snd x_1) ∧
 (IK ks vars imms l (Prod.fst x_1) (Prod.fst (Prod.snd (Prod.snd x_1))) (Prod.fst (Prod.snd (Prod.snd (Prod.snd (Prod.snd x_1))))) ∧
 IS (Prod.fst (Prod.snd x_1)) id m iL vars imms (Prod.fst (Prod.snd (Prod.snd x_1))) ∧
 FR3 id m iL h (Prod.fst (Prod.snd x_1)) ∧
 Prod.fst (Prod.snd (Prod.snd (Prod.snd x_1))) = immV iv im imms ∧
 Heap.get (Prod.fst (Prod.snd x_1)) (Prod.snd (Prod.snd (Prod.snd (Prod.snd (Prod.snd x_1))))) =
 IObj.tip (List.length (Prod.fst (Prod.snd (Prod.snd (Prod.snd (Prod.snd x_1)))))) ∧
 Prod.snd (Prod.snd (Prod.snd (Prod.snd (Prod.snd x_1)))) < Heap.next (Prod.fst (Prod.snd x_1)) ∧
 Heap.next h ≤ Prod.snd (Prod.snd (Prod.snd (Prod.snd (Prod.snd x_1))))) ∧
 List.length ks - Prod.fst x_1 < List.length ks - Prod.fst x))
 (∃ (m : Nat),
 ∃ (iL : Nat),
 ∃ (vars : List Int),
 ∃ (imms : List Int),
 ∃ (l : List Nd),
 IS (Prod.fst (Prod.snd x)) id m iL vars imms l ∧
 (okN (Nd.mk op (Prod.snd (Prod.snd (Prod.snd x))) []) ∧ (∀ (x : Nd), x ∈ l → okN x) ∧ List.length l ≤ (1000000000 : Nat) ∧ (0 : Nat) ≤ (1000000000 : Nat)) ∧
 ∀ (h2 : Heap),
 IS h2 id m iL vars imms (Prod.fst (putA l (Nd.mk op (Prod.snd (Prod.snd (Prod.snd x))) []))) →
 FR3 id m iL (Prod.fst (Prod.snd x)) h2 → Q (IV.int IntKind.i64 (Prod.snd (putA l (Nd.mk op (Prod.snd (Prod.snd (Prod.snd x))) [])))) h2)) ∧
 ∀ (x : Nat × Heap × List Nd × Int × List Int × Nat) (b : FF),
 IK ks vars imms l (Prod.fst x) (Prod.fst (Prod.snd (Prod.snd x))) (Prod.fst (Prod.snd (Prod.snd (Prod.snd (Prod.snd x))))) ∧
 IS (Prod.fst (Prod.snd x)) id m iL vars imms (Prod.fst (Prod.snd (Prod.snd x))) ∧
 FR3 id m iL h (Prod.fst (Prod.snd x)) ∧
 Prod.fst (Prod.snd (Prod.snd (Prod.snd x))) = immV iv im imms ∧
 Heap.get (Prod.fst (Prod.snd x)) (Prod.snd (Prod.snd (Prod.snd (Prod.snd (Prod.snd x))))) = IObj.tip (List.length (Prod.fst (Prod.snd (Prod.snd (Prod.snd (Prod.snd x)))))) ∧
 Prod.snd (Prod.snd (Prod.snd (Prod.snd (Prod.snd x)))) < Heap.next (Prod.fst (Prod.snd x)) ∧ Heap.next h ≤ Prod.snd (Prod.snd (Prod.snd (Prod.snd (Prod.snd x)))) →
 brS (decide ((↑(Prod.fst x) : Int) < (↑(List.length ks) : Int)))
 (needS (decide ((0 : Int) ≤ (↑(Prod.fst x) : Int)) && decide ((↑(Prod.fst x) : Int) < (↑(List.length ks) : Int)))
 (ldIS IntKind.i64 (cTs ks) (Int.toNat (↑(Prod.fst x) : Int) * (5 : Nat)) fun (n20 : Int) =>
 ldIS IntKind.i64 (cTs ks) (Int.toNat (↑(Prod.fst x) : Int) * (5 : Nat) + (1 : Nat)) fun (n21 : Int) =>
 ldIS IntKind.i64 (cTs ks) (Int.toNat (↑(Prod.fst x) : Int) * (5 : Nat) + (1 : Nat) + (1 : Nat)) fun (n22 : Int) =>
 ldIS IntKind.i64 (cTs ks) (Int.toNat (↑(Prod.fst x) : Int) * (5 : Nat) + (1 : Nat) + (1 : Nat) + (1 : Nat)) fun (n23 : Int) =>
 ldVS (5 : Nat) (cTs ks) (Int.toNat (↑(Prod.fst x) : Int) * (5 : Nat) + (1 : Nat) + (1 : Nat) + (1 : Nat) + (1 : Nat)) fun (i24 : Option Nat) (e25 l26 : Nat) (c27 : List IV) =>
 ∃ (ks_1 : List T),
 ∃ (m_1 : Nat),
 ∃ (iL_1 : Nat),
 ∃ (vars_1 : List Int),
 ∃ (imms_1 : List Int),
 ∃ (l_1 : List Nd),
 (l26 = List.length ks_1 ∧ c27 = cTs ks_1) ∧
 IS (Prod.fst (Prod.snd x)) id m_1 iL_1 vars_1 imms_1 l_1 ∧
 (T.num (T.mk n20 n21 n22 n23 ks_1) ≤ dd ∧ T.wi (T.mk n20 n21 n22 n23 ks_1) (↑(List.length vars_1) : Int) (↑(List.length imms_1) : Int) ∧ T.ok (T.mk n20 n21 n22 n23 ks_1)) ∧
 ((∀ (x : Int), x ∈ vars_1 → i64b x) ∧
 (∀ (x : Int), x ∈ imms_1 → i64b x) ∧
 (∀ (x : Nd), x ∈ l_1 → okN x) ∧ List.length l_1 + T.num (T.mk n20 n21 n22 n23 ks_1) ≤ (1000000000 : Nat) ∧ List.length vars_1 ≤ (1000 : Nat) ∧ List.length imms_1 ≤ (1000 : Nat)) ∧
 ∀ (h2 : Heap),
 IS h2 id m_1 iL_1 vars_1 imms_1 (Prod.fst (instA (T.mk n20 n21 n22 n23 ks_1) vars_1 imms_1 l_1)) →
 FR3 id m_1 iL_1 (Prod.fst (Prod.snd x)) h2 →
 tipS h2 (Prod.snd (Prod.snd (Prod.snd (Prod.snd (Prod.snd x))))) fun (m28 : Nat) =>
 needS
 (Nat.beq m28 (List.length (Prod.fst (Prod.snd (Prod.snd (Prod.snd (Prod.snd x)))))) &&
 Nat.ble ((List.length (Prod.fst (Prod.snd (Prod.snd (Prod.snd (Prod.snd x))))) + (1 : Nat)) * (8 : Nat)) (140737488355328 : Nat))
 ((∃ (x_1 : Nat × Heap × List Nd × Int),
 some (TV.v (IV.ptr id (0 : Nat))) = some (TV.v (IV.ptr id (0 : Nat))) ∧
 some (TV.l (5 : Nat) (0 : Nat)) = some (TV.l (5 : Nat) (0 : Nat)) ∧
 some (TV.v (IV.vslice io e1 (List.length ks) (5 : Nat) (cTs ks))) = some (TV.v (IV.vslice io e1 (List.length ks) (5 : Nat) (cTs ks))) ∧
 some (TV.v (IV.int IntKind.i64 (↑(List.length ks) : Int))) = some (TV.v (IV.int IntKind.i64 (↑(List.length ks) : Int))) ∧
 some (TV.v (IV.int IntKind.i64 (IntKind.wrap IntKind.i64 ((↑(Prod.fst x) : Int) + (1 : Int))))) = some (TV.v (IV.int IntKind.i64 (↑(Prod.fst x_1) : Int))) ∧
 some
 [IV.int IntKind.i64 op, IV.int IntKind.i64 (Prod.fst (Prod.snd (Prod.snd (Prod.snd x)))),
 IV.vslice (some (Prod.snd (Prod.snd (Prod.snd (Prod.snd (Prod.snd x)))))) (List.length (Prod.fst (Prod.snd (Prod.snd (Prod.snd (Prod.snd x))))) + (1 : Nat))
 (List.length (Prod.fst (Prod.snd (Prod.snd (Prod.snd (Prod.snd x))))) + (1 : Nat)) (1 : Nat)
 (List.map (IV.int IntKind.i64) (Prod.fst (Prod.snd (Prod.snd (Prod.snd (Prod.snd x))))) ++
 [IV.int IntKind.i64 (Prod.snd (instA (T.mk n20 n21 n22 n23 ks_1) vars_1 imms_1 l_1))])] =
 some [IV.int IntKind.i64 op, IV.int IntKind.i64 (Prod.snd (Prod.snd (Prod.snd x_1))), IV.nilslice] ∧
 Heap.set h2 (Prod.snd (Prod.snd (Prod.snd (Prod.snd (Prod.snd x))))) (IObj.tip (List.length (Prod.fst (Prod.snd (Prod.snd (Prod.snd (Prod.snd x))))) + (1 : Nat))) =
 Prod.fst (Prod.snd x_1) ∧
 (IK ks vars imms l (Prod.fst x_1) (Prod.fst (Prod.snd (Prod.snd x_1))) [] ∧
 IS (Prod.fst (Prod.snd x_1)) id m iL vars imms (Prod.fst (Prod.snd (Prod.snd x_1))) ∧
 FR3 id m iL h (Prod.fst (Prod.snd x_1)) ∧ Prod.snd (Prod.snd (Prod.snd x_1)) = immV iv im imms) ∧
 List.length ks - Prod.fst x_1 < List.length ks - Prod.fst x) ∨
 ∃ (x_1 : Nat × Heap × List Nd × Int × List Int × Nat),
 some (TV.v (IV.ptr id (0 : Nat))) = some (TV.v (IV.ptr id (0 : Nat))) ∧
 some (TV.l (5 : Nat) (0 : Nat)) = some (TV.l (5 : Nat) (0 : Nat)) ∧
 some (TV.v (IV.vslice io e1 (List.length ks) (5 : Nat) (cTs ks))) = some (TV.v (IV.vslice io e1 (List.length ks) (5 : Nat) (cTs ks))) ∧
 some (TV.v (IV.int IntKind.i64 (↑(List.length ks) : Int))) = some (TV.v (IV.int IntKind.i64 (↑(List.length ks) : Int))) ∧
 some (TV.v (IV.int IntKind.i64 (IntKind.wrap IntKind.i64 ((↑(Prod.fst x) : Int) + (1 : Int))))) = some (TV.v (IV.int IntKind.i64 (↑(Prod.fst x_1) : Int))) ∧
 some
 [IV.int IntKind.i64 op, IV.int IntKind.i64 (Prod.fst (Prod.snd (Prod.snd (Prod.snd x)))),
 IV.vslice (some (Prod.snd (Prod.snd (Prod.snd (Prod.snd (Prod.snd x)))))) (List.length (Prod.fst (Prod.snd (Prod.snd (Prod.snd (Prod.snd x))))) + (1 : Nat))
 (List.length (Prod.fst (Prod.snd (Prod.snd (Prod.snd (Prod.snd x))))) + (1 : Nat)) (1 : Nat)
 (List.map (IV.int IntKind.i64) (Prod.fst (Prod.snd (Prod.snd (Prod.snd (Prod.snd x))))) ++
 [IV.int IntKind.i64 (Prod.snd (instA (T.mk n20 n21 n22 n23 ks_1) vars_1 imms_1 l_1))])] =
 some
 [IV.int IntKind.i64 op, IV.int IntKind.i64 (Prod.fst (Prod.snd (Prod.snd (Prod.snd x_1)))),
 IV.vslice (some (Prod.snd (Prod.snd (Prod.snd (Prod.snd (Prod.snd x_1)))))) (List.length (Prod.fst (Prod.snd (Prod.snd (Prod.snd (Prod.snd x_1))))))
 (List.length (Prod.fst (Prod.snd (Prod.snd (Prod.snd (Prod.snd x_1)))))) (1 : Nat)
 (List.map (IV.int IntKind.i64) (Prod.fst (Prod.snd (Prod.snd (Prod.snd (Prod.snd x_1))))))] ∧
 Heap.set h2 (Prod.snd (Prod.snd (Prod.snd (Prod.snd (Prod.snd x))))) (IObj.tip (List.length (Prod.fst (Prod.snd (Prod.snd (Prod.snd (Prod.snd x))))) + (1 : Nat))) =
 Prod.fst (Prod.snd x_1) ∧
 (IK ks vars imms l (Prod.fst x_1) (Prod.fst (Prod.snd (Prod.snd x_1))) (Prod.fst (Prod.snd (Prod.snd (Prod.snd (Prod.snd x_1))))) ∧
 IS (Prod.fst (Prod.snd x_1)) id m iL vars imms (Prod.fst (Prod.snd (Prod.snd x_1))) ∧
 FR3 id m iL h (Prod.fst (Prod.snd x_1)) ∧
 Prod.fst (Prod.snd (Prod.snd (Prod.snd x_1))) = immV iv im imms ∧
 Heap.get (Prod.fst (Prod.snd x_1)) (Prod.snd (Prod.snd (Prod.snd (Prod.snd (Prod.snd x_1))))) =
 IObj.tip (List.length (Prod.fst (Prod.snd (Prod.snd (Prod.snd (Prod.snd x_1)))))) ∧
 Prod.snd (Prod.snd (Prod.snd (Prod.snd (Prod.snd x_1)))) < Heap.next (Prod.fst (Prod.snd x_1)) ∧
 Heap.next h ≤ Prod.snd (Prod.snd (Prod.snd (Prod.snd (Prod.snd x_1))))) ∧
 List.length ks - Prod.fst x_1 < List.length ks - Prod.fst x)))
 (∃ (ks : List Int),
 (List.length (Prod.fst (Prod.snd (Prod.snd (Prod.snd (Prod.snd x))))) = List.length ks ∧ List.map (IV.int IntKind.i64) (Prod.fst (Prod.snd (Prod.snd (Prod.snd (Prod.snd x))))) = List.map (IV.int IntKind.i64) ks) ∧
 ∃ (m : Nat),
 ∃ (iL : Nat),
 ∃ (vars : List Int),
 ∃ (imms : List Int),
 ∃ (l : List Nd),
 IS (Prod.fst (Prod.snd x)) id m iL vars imms l ∧
 (okN (Nd.mk op (Prod.fst (Prod.snd (Prod.snd (Prod.snd x)))) ks) ∧ (∀ (x : Nd), x ∈ l → okN x) ∧ List.length l ≤ (1000000000 : Nat) ∧ List.length ks ≤ (1000000000 : Nat)) ∧
 ∀ (h2 : Heap),
 IS h2 id m iL vars imms (Prod.fst (putA l (Nd.mk op (Prod.fst (Prod.snd (Prod.snd (Prod.snd x)))) ks))) →
 FR3 id m iL (Prod.fst (Prod.snd x)) h2 → Q (IV.int IntKind.i64 (Prod.snd (putA l (Nd.mk op (Prod.fst (Prod.snd (Prod.snd (Prod.snd x)))) ks)))) h2))) := by kernel_rfl
set_option maxHeartbeats 2000000 in
theorem rInst : ∀ d xs h Q, kInst d xs h Q → CallW env 39 xs h Q := by
  intro d
  induction d with
  | zero =>
    intro xs h Q hk
    unfold kInst at hk
    split at hk
    · rename_i id v op im iv io e1 n1 c1
      obtain ⟨ks, m, iL, vars, imms, l, ⟨rfl, rfl⟩, hs, hd, hb, hk⟩ := hk
      have := num_pos (T.mk v op im iv ks)
      omega
    · exact hk.elim
  | succ dd ih =>
    intro xs h Q hk
    unfold kInst at hk
    split at hk
    · rename_i id v op im iv io e1 n1 c1
      obtain ⟨ks, m, iL, vars, imms, l, ⟨rfl, rfl⟩, hs, hd, hb, hk⟩ := hk
      refine dF_run (sound_add ih (okPut)) (vInst dd id v op im iv ks io e1 m iL vars imms l h Q) ?_
      have tn : ∀ x : Nat, (x : Int).toNat = x := Int.toNat_natCast
      obtain ⟨hn1, hwi, hok⟩ := hd
      obtain ⟨hv, him, hlo, hbd, hvl, hil⟩ := hb
      have hnum : (T.mk v op im iv ks).num = nums ks + 1 := rfl
      have hlen := len_nums ks
      have eta : ∀ t : T, T.mk t.v t.op t.im t.iv t.ks = t := fun t => by cases t; rfl
      rw [hnum] at hn1 hbd
      have hs0 := hs
      obtain ⟨⟨b1, b2, b3⟩, g1, g2, g3⟩ := hs0
      refine brS_intro (fun cv => ?_) (fun cv => ?_)
      · rw [decide_eq_true_eq] at cv
        rw [instA_var cv] at hk
        have hlt : (v - 1).toNat < vars.length := by have := hwi.1; omega
        have hw : IntKind.i64.wrap (v - 1) = v - 1 := IntWalk.i64_in _ (by have := hwi.1; omega)
        rw [hw]
        refine hget_intro g1 (ldV_at rfl (needS_intro (by have := hwi.1; simp; omega) ?_))
        rw [Nat.mul_one]
        refine ldIS_map hlt ?_
        have e : vars.getD (v - 1).toNat 0 = vars[(v - 1).toNat] := by rw [List.getD_eq_getElem?_getD, List.getElem?_eq_getElem hlt]; rfl
        rw [e] at hk
        exact hk h hs FR3.refl
      · rw [decide_eq_false_iff_not] at cv
        have hv0 : v = 0 := by have := hwi.1; omega
        subst hv0
        have hwi2 : (0 ≤ iv ∧ iv ≤ imms.length) ∧ wis ks vars.length imms.length := by
          rcases hwi.2 with q | q
          · omega
          · exact q
        rw [instA_node cv] at hk
        refine ⟨brS_intro (fun ci => ?_) (fun ci => ?_), ?_⟩
        · rw [decide_eq_true_eq] at ci
          have hlt : (iv - 1).toNat < imms.length := by omega
          have hw : IntKind.i64.wrap (iv - 1) = iv - 1 := IntWalk.i64_in _ (by omega)
          rw [hw]
          refine hget_intro g1 (ldV_at rfl (needS_intro (by simp; omega) ?_))
          rw [Nat.mul_one]
          refine ldIS_map hlt ⟨_, rfl, rfl, rfl, rfl, rfl, rfl, ?_, trivial⟩
          unfold immV
          rw [if_pos ci, List.getD_eq_getElem?_getD, List.getElem?_eq_getElem hlt]
          rfl
        · rw [decide_eq_false_iff_not] at ci
          refine ⟨_, rfl, rfl, rfl, rfl, rfl, rfl, ?_, trivial⟩
          unfold immV
          rw [if_neg ci]
        · rintro imm _ hie
          try dsimp only at hie ⊢
          have hnok : ∀ kids : List Int, (∀ x ∈ kids, i64b x) → okN ⟨op, imm, kids⟩ := fun kids q => ⟨hok.1.2.1, by
            rw [hie]
            unfold immV
            show i64b (if 0 < iv then imms.getD (iv - 1).toNat 0 else im)
            split
            · exact getD_b him
            · exact hok.1.2.2.1, q⟩
          have fin : ∀ (g : Heap) (i : Nat) (li : List Nd) (kids : List Int), IK ks vars imms l i li kids → FR3 id m iL h g → ks.length ≤ i → ∀ h2, IS h2 id m iL vars imms (putA li ⟨op, imm, kids⟩).1 → FR3 id m iL g h2 → Q (.int .i64 (putA li ⟨op, imm, kids⟩).2) h2 := by
            intro g i li kids hik hf hle h2 q1 q2
            have e := hik.last hle
            rw [e, ← hie] at hk
            exact hk h2 q1 (hf.trans q2)
          have hkid : ∀ (g : Heap) (i : Nat) (hlt : i < ks.length) (li : List Nd) (kids : List Int), IK ks vars imms l i li kids → IS g id m iL vars imms li →
              (ks[i].num ≤ dd ∧ ks[i].wi vars.length imms.length ∧ ks[i].ok) ∧ (∀ x ∈ vars, i64b x) ∧ (∀ x ∈ imms, i64b x) ∧ (∀ x ∈ li, okN x) ∧ li.length + ks[i].num ≤ 1000000000 ∧ vars.length ≤ 1000 ∧ imms.length ≤ 1000 := by
            intro g i hlt li kids hik his
            have h1 := num_lt (List.getElem_mem hlt)
            exact ⟨⟨by omega, wi_kid hwi2.2 (List.getElem_mem hlt), ok_kid hok.2 (List.getElem_mem hlt)⟩, hv, him, hik.2.1, (hik.step hlt hok.2 hv him).2, hvl, hil⟩
          refine ⟨.inl ⟨(0, h, l, imm), rfl, rfl, rfl, rfl, rfl, rfl, rfl, ⟨⟨⟨by simp, Nat.zero_le _, rfl⟩, hlo, by simp, by rw [List.drop_zero]; omega⟩, hs, FR3.refl, hie⟩, trivial⟩, ?_, ?_⟩
          · rintro ⟨i, g, li, im1⟩ _ ⟨hik, his, hfr, hie1⟩
            dsimp only at hik his hfr hie1 ⊢
            obtain rfl : im1 = imm := hie1.trans hie.symm
            refine brS_intro (fun c => ?_) (fun c => ?_)
            · rw [decide_eq_true_eq] at c
              have hlt : i < ks.length := by omega
              simp only [tn]
              obtain ⟨k1, k2⟩ := hkid g i hlt li [] hik his
              refine needS_intro (by simp; omega) (ldT hlt rfl ⟨ks[i].ks, m, iL, vars, imms, li, ⟨rfl, rfl⟩, his, by rw [eta]; exact k1, by rw [eta]; exact k2, fun g2 hs2 hf2 => .inr ⟨(i + 1, g2.push (.tip 1), (instA ks[i] vars imms li).1, im1, [(instA ks[i] vars imms li).2], g2.next), (by first | rfl | exact True.intro), (by first | rfl | exact True.intro), (by first | rfl | exact True.intro), (by first | rfl | exact True.intro), ?_, ?_, (by first | rfl | exact True.intro), ?_, ?_⟩⟩)
              · rw [IntWalk.i64_in _ (by omega)]; rfl
              · rw [eta]; rfl
              · rw [eta] at hs2
                exact ⟨(hik.step hlt hok.2 hv him).1, hs2.push, (hfr.trans hf2).push, hie, get_push_eq, Nat.lt_succ_self _, Nat.le_trans hfr.1 hf2.1⟩
              · have := hik.1.2.1
                dsimp only
                omega
            · rw [decide_eq_false_iff_not] at c
              have h0 := hik.1.2.2
              have hb := hik.2.2.2
              exact ⟨m, iL, vars, imms, li, his, ⟨hnok _ (by simp), hik.2.1, by omega, by simp⟩, fun h2 q1 q2 => fin g i li [] hik hfr (by omega) h2 q1 q2⟩
          · rintro ⟨i, g, li, im1, kids, i2⟩ _ ⟨hik, his, hfr, hie1, ht, htl, hth⟩
            dsimp only at hik his hfr hie1 ht htl hth ⊢
            obtain rfl : im1 = imm := hie1.trans hie.symm
            refine brS_intro (fun c => ?_) (fun c => ?_)
            · rw [decide_eq_true_eq] at c
              have hlt : i < ks.length := by omega
              simp only [tn]
              obtain ⟨k1, k2⟩ := hkid g i hlt li kids hik his
              have hne : i2 ≠ id ∧ i2 ≠ m ∧ i2 ≠ iL := by omega
              have hkl := hik.1.2.2
              refine needS_intro (by simp; omega) (ldT hlt rfl ⟨ks[i].ks, m, iL, vars, imms, li, ⟨rfl, rfl⟩, his, by rw [eta]; exact k1, by rw [eta]; exact k2, fun g2 hs2 hf2 => tip_intro ((hf2.2 i2 htl hne.1 hne.2.1 hne.2.2).trans ht)
                (needS_intro (by simp only [Nat.mul_one, Bool.and_eq_true, nbeq_t, Nat.ble_eq, true_and]; omega) (.inr ⟨(i + 1, g2.set i2 (.tip (kids.length + 1)), (instA ks[i] vars imms li).1, im1, kids ++ [(instA ks[i] vars imms li).2], i2), (by first | rfl | exact True.intro), (by first | rfl | exact True.intro), (by first | rfl | exact True.intro), (by first | rfl | exact True.intro), ?_, ?_, (by first | rfl | exact True.intro), ?_, ?_⟩))⟩)
              · rw [IntWalk.i64_in _ (by omega)]; rfl
              · rw [eta]; simp
              · rw [eta] at hs2
                exact ⟨(hik.step hlt hok.2 hv him).1, hs2.set hne.1 hne.2.1 hne.2.2, (hfr.trans hf2).set hth, hie, by rw [get_set_eq]; simp, Nat.lt_of_lt_of_le htl hf2.1, hth⟩
              · dsimp only
                omega
            · rw [decide_eq_false_iff_not] at c
              have h0 := hik.1.2.2
              have hb := hik.2.2.2
              exact ⟨kids, ⟨rfl, rfl⟩, m, iL, vars, imms, li, his, ⟨hnok _ hik.2.2.1, hik.2.1, by omega, by have := hik.1.2.1; omega⟩, fun h2 q1 q2 => fin g i li kids hik hfr (by omega) h2 q1 q2⟩
    · exact hk.elim
def cInst := addC 39 (fun xs h K => ∃ d, kInst d xs h K) cPut
theorem okInst : Sound env cInst := sound_add (fun xs h Q hk => hk.elim fun d hk => rInst d xs h Q hk) (okPut)

end Go.Proofs.Ytmfnadojephcpaa
