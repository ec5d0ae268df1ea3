/-
  Patterns: sorts of nodes; the generated nodes.
  Conditions: none.
-/
import Derived.Test.YtmfnadojephcpaaI15
import Derived.Test.YtmfnadojephcpaaW15
import Derived.KernelRfl
set_option linter.unusedVariables false
set_option linter.unusedSimpArgs false
namespace Go.Proofs.Ytmfnadojephcpaa
open Go.Pv Go.M15
theorem ldNk {l : List Nd} {i o : Nat} {K : Option Nat → Nat → Nat → List IV → Prop} (h : i < l.length) (ho : o = i * 3 + 2) (hk : K none 0 l[i].ks.length (l[i].ks.map (IV.int .i64))) : ldVS 1 (l.flatMap cN) o K := by
  subst ho
  have e2 := cN_at (j := 2) h (by omega)
  unfold ldVS
  simp only [e2]
  exact hk
theorem cN_take : ∀ {l : List Nd} {n : Nat}, (l.flatMap cN).take (n * 3) = (l.take n).flatMap cN
  | [], n => by simp
  | x :: l, 0 => by simp
  | x :: l, n + 1 => by
    rw [List.flatMap_cons, List.take_succ_cons, List.flatMap_cons, List.take_append, show (n + 1) * 3 - (cN x).length = n * 3 by show (n + 1) * 3 - 3 = _; omega, cN_take, List.take_of_length_le (by show 3 ≤ _; omega)]
theorem ldI1 {k : IntKind} {l : List Int} {i o : Nat} {K : Int → Prop} (h : i < l.length) (ho : o = i) (hk : K l[i]) : ldIS k (l.map (IV.int k)) o K := by
  subst ho
  exact ldIS_map h hk
def kSortIf (xs : List IV) (h : Heap) (K : IV → Heap → Prop) : Prop := match xs with
  | [.bool b, .int .i64 n] => K (.int .i64 (if b = true then n else 0)) h
  | _ => False
set_option maxRecDepth 100000 in
theorem vSortIf (b : Bool) (n : Int) (h : Heap) (Q : IV → Heap → Prop) : dF (stdS cInsta) env 53 noU noI noI [.bool b, .int .i64 n] h Q = (
  brS b (Q (.int .i64 n) h) (Q (.int .i64 0) h)) := by kernel_rfl
theorem sSortIf : ∀ xs h Q, kSortIf xs h Q → CallW env 53 xs h Q := by
  intro xs h Q hk
  unfold kSortIf at hk
  split at hk
  · rename_i b n
    refine dF_run (okInsta) (vSortIf b n h Q) ?_
    refine brS_intro (fun c => ?_) (fun c => ?_)
    · rw [if_pos c] at hk
      exact hk
    · rw [if_neg (by rw [c]; exact Bool.false_ne_true)] at hk
      exact hk
  · exact hk.elim
def cSortIf := addC 53 kSortIf cInsta
theorem okSortIf : Sound env cSortIf := sound_add sSortIf (okInsta)

def avInv (k : List Int) : Inv' := atX Nat (fun i => [(0, .v (.vslice none 0 (k).length 1 ((k).map (IV.int .i64)))), (3, .v (.int .i64 i))]) (fun _ => []) (fun _ => Heap.empty)
  (fun i => i ≤ k.length ∧ (k.drop i).all (fun x => decide (x = 1)) = k.all (fun x => decide (x = 1))) (fun i => k.length - i)
def kAllV (xs : List IV) (h : Heap) (K : IV → Heap → Prop) : Prop := match xs with
  | [.vslice none e1 n1 1 c1] => ∃ k : List Int, (n1 = k.length ∧ c1 = k.map (IV.int .i64)) ∧ k.length ≤ 1000000000 ∧ K (.bool (k.all fun x => decide (x = 1))) h
  | _ => False
set_option maxRecDepth 100000 in
theorem vAllV (k : List Int) (e1 : Nat) (h : Heap) (Q : IV → Heap → Prop) : dF (stdS cSortIf) env 54 noU (ic1 3 (avInv k)) noI [.vslice none e1 (k).length 1 ((k).map (IV.int .i64))] h Q = (
  needS (pureL [IV.vslice none 0 k.length 1 (List.map (IV.int .i64) k)])
 ((∃ (x : Nat),
 some (TV.v (.vslice none 0 k.length 1 (List.map (IV.int .i64) k))) = some (TV.v (.vslice none 0 k.length 1 (List.map (IV.int .i64) k))) ∧
 some (TV.v (.int .i64 0)) = some (TV.v (.int .i64 (↑x : Int))) ∧
 Heap.mk PT.nil 0 = Heap.mk PT.nil 0 ∧ (x ≤ k.length ∧ (List.all (List.drop x k) fun x => decide (x = 1)) = List.all k fun x => decide (x = 1)) ∧ True) ∧
 ∀ (x : Nat) (b : FF),
 (x ≤ k.length ∧ (List.all (List.drop x k) fun x => decide (x = 1)) = List.all k fun x => decide (x = 1)) →
 brS (decide ((↑x : Int) < (↑k.length : Int)))
 (needS (decide (0 ≤ (↑x : Int)) && decide ((↑x : Int) < (↑k.length : Int)))
 (ldIS .i64 (List.map (IV.int .i64) k) (Int.toNat (↑x : Int) * 1) fun n0 =>
 brS (n0 != 1) (Q (.bool false) h)
 (∃ (x_1 : Nat),
 some (TV.v (.vslice none 0 k.length 1 (List.map (IV.int .i64) k))) = some (TV.v (.vslice none 0 k.length 1 (List.map (IV.int .i64) k))) ∧
 some (TV.v (.int .i64 (IntKind.wrap .i64 ((↑x : Int) + 1)))) = some (TV.v (.int .i64 (↑x_1 : Int))) ∧
 Heap.mk PT.nil 0 = Heap.mk PT.nil 0 ∧
 (x_1 ≤ k.length ∧ (List.all (List.drop x_1 k) fun x => decide (x = 1)) = List.all k fun x => decide (x = 1)) ∧ k.length - x_1 < k.length - x)))
 (Q (.bool true) h))) := by kernel_rfl
set_option maxHeartbeats 1000000 in
theorem sAllV : ∀ xs h Q, kAllV xs h Q → CallW env 54 xs h Q := by
  intro xs h Q hk
  unfold kAllV at hk
  split at hk
  · rename_i e1 n1 c1
    obtain ⟨k, ⟨rfl, rfl⟩, hb, hk⟩ := hk
    refine dF_run (okSortIf) (vAllV k e1 h Q) ?_
    have tn : ∀ x : Nat, (x : Int).toNat = x := Int.toNat_natCast
    refine needS_intro (by simp only [pureL, pureB, pureL_ints, Bool.and_true]) ⟨⟨0, (by first | rfl | exact True.intro), (by first | rfl | exact True.intro), (by first | rfl | exact True.intro), ⟨Nat.zero_le _, rfl⟩, trivial⟩, ?_⟩
    rintro i _ ⟨hi, ha⟩
    try dsimp only at hi ha ⊢
    refine brS_intro (fun c => ?_) (fun c => ?_)
    · rw [decide_eq_true_eq] at c
      have hlt : i < k.length := by omega
      simp only [tn]
      rw [Nat.mul_one]
      rw [List.drop_eq_getElem_cons hlt, List.all_cons] at ha
      refine needS_intro (by simp; omega) (ldIS_map hlt (brS_intro (fun c1 => ?_) (fun c1 => ⟨i + 1, (by first | rfl | exact True.intro), ?_, (by first | rfl | exact True.intro), ⟨hlt, ?_⟩, by (try dsimp only); omega⟩)))
      · rw [decide_eq_false (bne_iff_ne.1 c1), Bool.false_and] at ha
        rw [← ha] at hk
        exact hk
      · rw [IntWalk.i64_in _ (by omega)]; rfl
      · rw [bne_eq_false_iff_eq] at c1
        rw [decide_eq_true c1, Bool.true_and] at ha
        exact ha
    · rw [decide_eq_false_iff_not] at c
      rw [List.drop_eq_nil_of_le (by omega)] at ha
      rw [← ha] at hk
      exact hk
  · exact hk.elim
def cAllV := addC 54 kAllV cSortIf
theorem okAllV : Sound env cAllV := sound_add sAllV (okSortIf)

def kNSort (xs : List IV) (h : Heap) (K : IV → Heap → Prop) : Prop := match xs with
  | [.vslice none e0 n0 3 c0, .agg [.int .i64 op, .int .i64 im, .vslice none e1 n1 1 c1], .vslice none e2 n2 1 c2] => ∃ (l : List Nd) (ks k : List Int), (n0 = l.length ∧ c0 = l.flatMap cN) ∧ (n1 = ks.length ∧ c1 = ks.map (IV.int .i64)) ∧ (n2 = k.length ∧ c2 = k.map (IV.int .i64)) ∧ ((op ≠ 25 ∧ op ≠ 30 ∧ op ≠ 31) ∧ ks.length = k.length ∧ k.length ≤ 1000000000) ∧ K (.int .i64 (nsort op im k)) h
  | _ => False
noncomputable def z42c (k : List Int) := List.map (IV.int .i64) k
noncomputable def z42n (k : List Int) := Int.tdiv (↑k.length : Int) (2 : Int)
noncomputable def z42a (k : List Int) (h : Heap) (Q : IV → Heap → Prop) := needS (decide (0 ≤ IntKind.wrap .i64 (IntKind.wrap .i64 (z42n k) + 2)) && (decide (IntKind.wrap .i64 (IntKind.wrap .i64 (z42n k) + 2) ≤ (↑k.length : Int)) && decide ((↑k.length : Int) ≤ (↑k.length : Int)))) (∃ (k_2 : List Int), (Int.toNat (↑k.length : Int) - Int.toNat (IntKind.wrap .i64 (IntKind.wrap .i64 (z42n k) + 2)) = k_2.length ∧ List.take ((Int.toNat (↑k.length : Int) - Int.toNat (IntKind.wrap .i64 (IntKind.wrap .i64 (z42n k) + 2))) * 1) (List.drop (Int.toNat (IntKind.wrap .i64 (IntKind.wrap .i64 (z42n k) + 2)) * 1) (z42c k)) = List.map (IV.int .i64) k_2) ∧ k_2.length ≤ 1000000000 ∧ Q (.int .i64 (if (List.all k_2 fun x => decide (x = 1)) = true then (3 : Int) else (0 : Int))) h)
noncomputable def z42b  := IV.int .i64 0
noncomputable def z42d (k : List Int) := IntKind.wrap .i64 (z42n k) + 1
noncomputable def z42e (k : List Int) := true && decide (0 < (↑k.length : Int))
noncomputable def z42f (k : List Int) := true && decide (1 < (↑k.length : Int))
noncomputable def z42g (k : List Int) (h : Heap) (Q : IV → Heap → Prop) := needS (true && (decide (1 ≤ (↑k.length : Int)) && decide ((↑k.length : Int) ≤ (↑k.length : Int)))) (∃ (k_1 : List Int), (Int.toNat (↑k.length : Int) - 1 = k_1.length ∧ List.take ((Int.toNat (↑k.length : Int) - 1) * 1) (List.drop 1 (z42c k)) = List.map (IV.int .i64) k_1) ∧ k_1.length ≤ 1000000000 ∧ Q (.int .i64 (if (List.all k_1 fun x => decide (x = 1)) = true then (2 : Int) else (0 : Int))) h)
noncomputable abbrev z42h (k : List Int) (h : Heap) (Q : IV → Heap → Prop) := ∃ (k_1 : List Int), (k.length = k_1.length ∧ List.map (IV.int .i64) k = List.map (IV.int .i64) k_1) ∧ k_1.length ≤ 1000000000 ∧ Q (.int .i64 (if (List.all k_1 fun x => decide (x = 1)) = true then (1 : Int) else (0 : Int))) h
noncomputable abbrev z42i (k k_1 : List Int) := Int.toNat (IntKind.wrap .i64 (z42d k)) - 1 = k_1.length ∧ List.take ((Int.toNat (IntKind.wrap .i64 (z42d k)) - 1) * 1) (List.drop 1 (z42c k)) = List.map (IV.int .i64) k_1
noncomputable def z42j (k : List Int) := true && decide (2 < (↑k.length : Int))
noncomputable def z42k (k : List Int) := true && (decide (1 ≤ IntKind.wrap .i64 (z42d k)) && decide (IntKind.wrap .i64 (z42d k) ≤ (↑k.length : Int)))
noncomputable def z42l (k : List Int) := decide (0 ≤ IntKind.wrap .i64 (z42d k)) && decide (IntKind.wrap .i64 (z42d k) < (↑k.length : Int))
noncomputable def z42m (im : Int) := IV.int .i64 (IntKind.wrap .i64 ((if (im == 0) = true then (1 : Int) else (0 : Int)) + 1))
noncomputable def z42o  := IV.int .i64 2
set_option maxRecDepth 100000 in
theorem vNSort (l : List Nd) (op im : Int) (ks k : List Int) (e0 e1 e2 : Nat) (h : Heap) (Q : IV → Heap → Prop) : dF (stdS cAllV) env 42 noU noI noI [.vslice none e0 (l).length 3 ((l).flatMap cN), .agg [.int .i64 op, .int .i64 im, .vslice none e1 ks.length 1 (ks.map (IV.int .i64))], .vslice none e2 (k).length 1 ((k).map (IV.int .i64))] h Q = (
  needS (pureL [IV.vslice none 0 l.length 3 (List.flatMap cN l), IV.agg [.int .i64 op, IV.int .i64 im, IV.vslice none 0 ks.length 1 (List.map (IV.int .i64) ks)], IV.vslice none 0 k.length 1 (z42c k)]) (brS (!arOk
 op) (Q z42b h) (brS (decide (ar op ≥ 0)) (brS ((↑ks.length : Int) != ar op) (Q z42b h) (brS (!vImm op im) (Q z42b h) (brS (op == 3) (brS (Int.tmod im (16 : Int) == 0) (Q z42o h) (Q (.int .i64 1) h)) (brS (op == 26) (Q z42o h) (brS (op == 22)
 (needS (z42e k) (ldIS .i64 (z42c k) 0 fun n0 => brS (n0 != 1) (Q z42b h) (needS (z42f k) (ldIS .i64 (z42c k) 1 fun n1 => needS (z42j k) (ldIS .i64 (z42c k) 2 fun n2 => brS (n1 != n2) (Q z42b h) (needS (z42f k) (ldIS .i64
 (z42c k) 1 fun n3 => brS (n3 == 3) (Q z42b h) (needS (z42f k) (ldIS .i64 (z42c k) 1 fun n4 => Q (.int .i64 n4) h))))))))) (brS (op == 23) (needS (z42e k) (ldIS .i64 (z42c k) 0 fun n5 => brS (n5 == 2) (needS
 (z42f k) (ldIS .i64 (z42c k) 1 fun n6 => Q (.int .i64 (if (n6 == 1) = true then (1 : Int) else (0 : Int))) h)) (Q z42b h))) (brS (op == 24) (needS (z42e k) (ldIS .i64 (z42c k) 0 fun n7 => Q (.int .i64 (if (n7 == 2)
 = true then (1 : Int) else (0 : Int))) h)) (brS (op == 25) (needS (z42e k) (ldIS .i64 (z42c k) 0 fun n8 => brS (n8 != 3) (Q z42b h) (needS (true && decide (0 < (↑ks.length : Int))) (ldIS .i64 (List.map (IV.int .i64) ks) 0 fun
 (n9 : Int) => needS (decide (0 ≤ n9) && decide (n9 < (↑l.length : Int))) (ldVS 1 (List.flatMap cN l) (n9.toNat * 3 + (2 : Nat)) fun (i10 : Option Nat) (e11 l12 : Nat) (c13 : List IV) => brS (decide (im ≥ IntKind.wrap .i64 (Int.tdiv (↑l12 : Int) (2 : Int)))) (Q
 z42b h) (Q (z42m im) h)))))) (brS (op == 27) (needS (z42e k) (ldIS .i64 (z42c k) 0 fun n14 => brS (n14 == 2) (needS (z42f k) (ldIS .i64 (z42c k) 1 fun n15 => Q (.int .i64 (if (n15 == 1) = true then (2 : Int) else (0 : Int)))
 h)) (Q z42b h))) (brS (op == 29) (needS (z42e k) (ldIS .i64 (z42c k) 0 fun n16 => brS (n16 == 2) (needS (z42f k) (ldIS .i64 (z42c k) 1 fun n17 => Q (.int .i64 (if (n17 == 1) = true then (2 : Int) else (0 : Int))) h)) (Q z42b
 h))) (brS (op == 28) (needS (z42e k) (ldIS .i64 (z42c k) 0 fun n18 => brS (n18 == 2) (needS (z42f k) (ldIS .i64 (z42c k) 1 fun n19 => brS (n19 == 1) (needS (z42j k) (ldIS .i64 (z42c k) 2 fun n20 => Q (.int
 .i64 (if (n20 == 1) = true then (2 : Int) else (0 : Int))) h)) (Q z42b h))) (Q z42b h))) (brS (op == 30) (brS (decide ((↑k.length : Int) ≥ 1)) (brS (decide ((↑k.length : Int) ≤ 7)) (needS (z42e k) (ldIS .i64 (z42c k) 0 fun (n21 : Int)
 => brS (n21 == 2) (z42g k h Q) (Q z42b h))) (Q z42b h)) (Q z42b h)) (brS (op == 31) (brS (Int.tmod (↑k.length : Int) (2 : Int) == 1) (brS (decide (IntKind.wrap .i64 (z42n k) ≥ 1)) (brS (decide (IntKind.wrap .i64 (z42n k) ≤ 16)) (needS (z42e
 k) (ldIS .i64 (z42c k) 0 fun n22 => brS (n22 == 2) (needS (z42k k) (∃ (k_1 : List Int), (z42i k k_1) ∧ k_1.length ≤ 1000000000 ∧ brS (List.all k_1 fun x => decide (x = 1)) (needS (z42l k) (ldIS .i64 (z42c k) (Int.toNat (IntKind.wrap .i64
 (z42d k)) * 1) fun n23 => brS (n23 == 2) (z42a k h Q) (Q z42b h))) (Q z42b h))) (Q z42b h))) (Q z42b h)) (Q z42b h)) (Q z42b h)) (z42h k h Q)))))))))))))) (brS (!vImm op im) (Q z42b h) (brS (op == 3) (brS (Int.tmod im (16 : Int) == 0) (Q z42o h) (Q (.int .i64
 (1 : Int)) h)) (brS (op == 26) (Q z42o h) (brS (op == 22) (needS (z42e k) (ldIS .i64 (z42c k) 0 fun n24 => brS (n24 != 1) (Q z42b h) (needS (z42f k) (ldIS .i64 (z42c k) 1 fun n25 => needS (z42j k) (ldIS .i64 (z42c k) 2
 fun n26 => brS (n25 != n26) (Q z42b h) (needS (z42f k) (ldIS .i64 (z42c k) 1 fun n27 => brS (n27 == 3) (Q z42b h) (needS (z42f k) (ldIS .i64 (z42c k) 1 fun n28 => Q (.int .i64 n28) h))))))))) (brS (op == 23) (needS (z42e k)
 (ldIS .i64 (z42c k) 0 fun n29 => brS (n29 == 2) (needS (z42f k) (ldIS .i64 (z42c k) 1 fun n30 => Q (.int .i64 (if (n30 == 1) = true then (1 : Int) else (0 : Int))) h)) (Q z42b h))) (brS (op == 24) (needS (z42e k) (ldIS .i64
 (z42c k) 0 fun n31 => Q (.int .i64 (if (n31 == 2) = true then (1 : Int) else (0 : Int))) h)) (brS (op == 25) (needS (z42e k) (ldIS .i64 (z42c k) 0 fun n32 => brS (n32 != 3) (Q z42b h) (needS (true && decide (0 < (↑(List.length
 ks) : Int))) (ldIS .i64 (List.map (IV.int .i64) ks) 0 fun n33 => needS (decide (0 ≤ n33) && decide (n33 < (↑l.length : Int))) (ldVS 1 (List.flatMap cN l) (n33.toNat * 3 + (2 : Nat)) fun (i34 : Option Nat) (e35 l36 : Nat) (c37 : List IV)
 => brS (decide (im ≥ IntKind.wrap .i64 (Int.tdiv (↑l36 : Int) (2 : Int)))) (Q z42b h) (Q (z42m im) h)))))) (brS (op == 27) (needS (z42e k) (ldIS .i64 (z42c k) 0 fun n38 => brS (n38 == 2) (needS (z42f k) (ldIS .i64 (z42c k) 1 fun (n39 : Int)
 => Q (.int .i64 (if (n39 == 1) = true then (2 : Int) else (0 : Int))) h)) (Q z42b h))) (brS (op == 29) (needS (z42e k) (ldIS .i64 (z42c k) 0 fun n40 => brS (n40 == 2) (needS (z42f k) (ldIS .i64 (z42c k) 1 fun n41 => Q (.int
 .i64 (if (n41 == 1) = true then (2 : Int) else (0 : Int))) h)) (Q z42b h))) (brS (op == 28) (needS (z42e k) (ldIS .i64 (z42c k) 0 fun n42 => brS (n42 == 2) (needS (z42f k) (ldIS .i64 (z42c k) 1 fun n43 => brS (n43 == 1)
 (needS (z42j k) (ldIS .i64 (z42c k) 2 fun n44 => Q (.int .i64 (if (n44 == 1) = true then (2 : Int) else (0 : Int))) h)) (Q z42b h))) (Q z42b h))) (brS (op == 30) (brS (decide ((↑k.length : Int) ≥ 1)) (brS (decide ((↑k.length : Int)
 ≤ (7 : Int))) (needS (z42e k) (ldIS .i64 (z42c k) 0 fun n45 => brS (n45 == 2) (z42g k h Q) (Q z42b h))) (Q z42b h)) (Q z42b h)) (brS (op == 31) (brS (Int.tmod (↑k.length : Int) (2 : Int) == 1) (brS (decide (IntKind.wrap .i64 (z42n k) ≥ (1 :
 Int))) (brS (decide (IntKind.wrap .i64 (z42n k) ≤ 16)) (needS (z42e k) (ldIS .i64 (z42c k) 0 fun n46 => brS (n46 == 2) (needS (z42k k) (∃ (k_1 : List Int), (z42i k k_1) ∧ k_1.length ≤ 1000000000 ∧ brS (List.all k_1 fun x => decide (x
 = (1 : Int))) (needS (z42l k) (ldIS .i64 (z42c k) (Int.toNat (IntKind.wrap .i64 (z42d k)) * 1) fun n47 => brS (n47 == 2) (z42a k h Q) (Q z42b h))) (Q z42b h))) (Q z42b h))) (Q z42b h)) (Q z42b h)) (Q z42b h)) (z42h k h Q)))))))))))))))) := by kernel_rfl
set_option maxHeartbeats 2000000 in
theorem sNSort : ∀ xs h Q, kNSort xs h Q → CallW env 42 xs h Q := by
  intro xs h Q hk
  unfold kNSort at hk
  split at hk
  · rename_i e0 n0 c0 op im e1 n1 c1 e2 n2 c2
    obtain ⟨l, ks, k, ⟨rfl, rfl⟩, ⟨rfl, rfl⟩, ⟨rfl, rfl⟩, hb, hk⟩ := hk
    refine dF_run (okAllV) (vNSort l op im ks k e0 e1 e2 h Q) ?_
    delta z42a z42b z42c z42d z42e z42f z42g z42h z42i z42j z42k z42l z42m z42n z42o
    obtain ⟨hop, hkk, hkl⟩ := hb
    refine needS_intro (by simp only [pureL, pureB, pureL_ints, pureL_cN, Bool.and_true]) (brS_intro (fun c => ?_) (fun c0 => ?_))
    · unfold nsort at hk
      rw [if_pos (.inl (by simpa using c))] at hk
      exact hk
    rw [Bool.not_eq_false'] at c0
    have hz : ((k.length : Int) ≠ ar op ∨ vImm op im = false) → Q (.int .i64 0) h := fun e => by
      unfold nsort at hk
      rw [if_pos (.inr e)] at hk
      exact hk
    have har : op ≠ 30 → op ≠ 31 → 0 ≤ ar op := by unfold ar; repeat' split <;> omega
    refine brS_intro (fun _ => ?_) (fun c => by rw [decide_eq_false_iff_not] at c; exact absurd (har hop.2.1 hop.2.2) (by omega))
    refine brS_intro (fun c => hz (.inl (by rw [← hkk]; exact bne_iff_ne.1 c))) (fun c1 => brS_intro (fun c => hz (.inr (by simpa using c))) (fun c2 => ?_))
    rw [bne_eq_false_iff_eq, hkk] at c1
    rw [Bool.not_eq_false'] at c2
    rw [nsort_ops hop c0 c1 c2] at hk
    have rest : ∀ {o : Int}, (op == o) = false → ¬ op = o := fun c => by simpa using c
    refine brS_intro (fun c => ?_) (fun c3 => ?_)
    · have e := beq_iff_eq.1 c
      subst e
      rw [if_pos rfl] at hk
      have hi : 0 ≤ im := by
        unfold vImm at c2
        rw [decide_eq_true_eq] at c2
        have : mxI 3 = 255 := by decide
        omega
      rw [Int.tmod_eq_emod_of_nonneg hi]
      refine brS_intro (fun d => ?_) (fun d => ?_)
      · rw [if_pos (beq_iff_eq.1 d)] at hk
        exact hk
      · rw [if_neg (by simpa using d)] at hk
        exact hk
    rw [if_neg (rest c3)] at hk
    refine brS_intro (fun c => ?_) (fun c26 => ?_)
    · have e := beq_iff_eq.1 c
      rw [if_pos e] at hk
      exact hk
    rw [if_neg (rest c26)] at hk
    refine brS_intro (fun c => ?_) (fun c22 => ?_)
    · have e := beq_iff_eq.1 c
      subst e
      rw [if_pos rfl] at hk
      have h3 : k.length = 3 := by have : ar 22 = 3 := by decide
                                   omega
      match k, h3 with
      | [a, b, c], _ =>
        repeat' (first | refine needS_intro (by simp) ?_ | refine ldIS_map (by simp) ?_ | refine brS_intro (fun _ => ?_) (fun _ => ?_))
        all_goals
          refine q_eq hk ?_
          simp only [IV.int.injEq, true_and]
          simp_all
    rw [if_neg (rest c22)] at hk
    refine brS_intro (fun c => ?_) (fun c23 => ?_)
    · have e := beq_iff_eq.1 c
      subst e
      rw [if_pos rfl] at hk
      have h3 : k.length = 2 := by have : ar 23 = 2 := by decide
                                   omega
      match k, h3 with
      | [a, b], _ =>
        repeat' (first | refine needS_intro (by simp) ?_ | refine ldIS_map (by simp) ?_ | refine brS_intro (fun _ => ?_) (fun _ => ?_))
        all_goals
          refine q_eq hk ?_
          simp only [IV.int.injEq, true_and]
          simp_all
    rw [if_neg (rest c23)] at hk
    refine brS_intro (fun c => ?_) (fun c24 => ?_)
    · have e := beq_iff_eq.1 c
      subst e
      rw [if_pos rfl] at hk
      have h3 : k.length = 1 := by have : ar 24 = 1 := by decide
                                   omega
      match k, h3 with
      | [a], _ =>
        repeat' (first | refine needS_intro (by simp) ?_ | refine ldIS_map (by simp) ?_ | refine brS_intro (fun _ => ?_) (fun _ => ?_))
        all_goals
          refine q_eq hk ?_
          simp only [IV.int.injEq, true_and]
          simp_all
    rw [if_neg (rest c24)] at hk
    refine brS_intro (fun c => absurd (beq_iff_eq.1 c) hop.1) (fun _ => brS_intro (fun c => ?_) (fun c27 => brS_intro (fun c => ?_) (fun c29 => ?_)))
    · have e := beq_iff_eq.1 c
      subst e
      rw [if_pos (.inl rfl)] at hk
      have h3 : k.length = 2 := by have : ar 27 = 2 := by decide
                                   omega
      match k, h3 with
      | [a, b], _ =>
        repeat' (first | refine needS_intro (by simp) ?_ | refine ldIS_map (by simp) ?_ | refine brS_intro (fun _ => ?_) (fun _ => ?_))
        all_goals
          refine q_eq hk ?_
          simp only [IV.int.injEq, true_and]
          simp_all
    · have e := beq_iff_eq.1 c
      subst e
      rw [if_pos (.inr rfl)] at hk
      have h3 : k.length = 2 := by have : ar 29 = 2 := by decide
                                   omega
      match k, h3 with
      | [a, b], _ =>
        repeat' (first | refine needS_intro (by simp) ?_ | refine ldIS_map (by simp) ?_ | refine brS_intro (fun _ => ?_) (fun _ => ?_))
        all_goals
          refine q_eq hk ?_
          simp only [IV.int.injEq, true_and]
          simp_all
    rw [if_neg (fun e => e.elim (rest c27) (rest c29))] at hk
    refine brS_intro (fun c => ?_) (fun c28 => ?_)
    · have e := beq_iff_eq.1 c
      subst e
      rw [if_pos rfl] at hk
      have h3 : k.length = 3 := by have : ar 28 = 3 := by decide
                                   omega
      match k, h3 with
      | [a, b, c], _ =>
        repeat' (first | refine needS_intro (by simp) ?_ | refine ldIS_map (by simp) ?_ | refine brS_intro (fun _ => ?_) (fun _ => ?_))
        all_goals
          refine q_eq hk ?_
          simp only [IV.int.injEq, true_and]
          simp_all
    rw [if_neg (rest c28)] at hk
    exact brS_intro (fun c => absurd (beq_iff_eq.1 c) hop.2.1) (fun _ => brS_intro (fun c => absurd (beq_iff_eq.1 c) hop.2.2) (fun _ => ⟨k, ⟨rfl, rfl⟩, hkl, hk⟩))
  · exact hk.elim
def cNSort := addC 42 kNSort cAllV
theorem okNSort : Sound env cNSort := sound_add sNSort (okAllV)

/-- at the outer loop: no sort so far, or some -/
def soInv (l : List Nd) : Inv' := .or
  (atX Heap (fun _ => [(0, .v (.vslice none 0 (l).length 3 ((l).flatMap cN))), (4, .v (.int .i64 0)), (3, .v .nilslice)]) (fun _ => []) (fun x => x) (fun _ => True) (fun _ => l.length))
  (atX (Nat × Nat × Heap) (fun x => [(0, .v (.vslice none 0 (l).length 3 ((l).flatMap cN))), (4, .v (.int .i64 x.1)), (3, .v (.vslice (some x.2.1) x.1 x.1 1 ((sortsA (l.take x.1)).map (IV.int .i64))))]) (fun _ => []) (fun x => x.2.2) (fun x => SO l x.1 x.2.1 x.2.2) (fun x => l.length - x.1))
def siInv (l : List Nd) : Inv' := .or
  (atX Heap (fun _ => [(0, .v (.vslice none 0 (l).length 3 ((l).flatMap cN))), (4, .v (.int .i64 0)), (3, .v .nilslice), (5, .v .nilslice), (6, .v (.bool true)), (7, .v (.int .i64 0))]) (fun _ => []) (fun x => x) (fun _ => 0 < l.length) (fun _ => l.length * 1000002 + kRest l 0 0))
  (.or
  (atX (Nat × Nat × Heap) (fun x => [(0, .v (.vslice none 0 (l).length 3 ((l).flatMap cN))), (4, .v (.int .i64 x.1)), (3, .v (.vslice (some x.2.1) x.1 x.1 1 ((sortsA (l.take x.1)).map (IV.int .i64)))), (5, .v .nilslice), (6, .v (.bool true)), (7, .v (.int .i64 0))]) (fun _ => []) (fun x => x.2.2) (fun x => x.1 < l.length ∧ SO l x.1 x.2.1 x.2.2) (fun x => (l.length - x.1) * 1000002 + kRest l x.1 0))
  (atX (Nat × Nat × Heap × Nat × List Int × Nat) (fun x => [(0, .v (.vslice none 0 (l).length 3 ((l).flatMap cN))), (4, .v (.int .i64 x.1)), (3, .v (.vslice (some x.2.1) x.1 x.1 1 ((sortsA (l.take x.1)).map (IV.int .i64)))), (5, .v (.vslice (some x.2.2.2.2.2) x.2.2.2.2.1.length x.2.2.2.2.1.length 1 (x.2.2.2.2.1.map (IV.int .i64)))), (6, .v (.bool true)), (7, .v (.int .i64 x.2.2.2.1))]) (fun _ => []) (fun x => x.2.2.1)
    (fun x => x.1 < l.length ∧ SO l x.1 x.2.1 x.2.2.1 ∧ SI l x.1 x.2.2.2.1 x.2.2.2.2.1 ∧ SK x.2.2.2.2.1 x.2.1 x.2.2.2.2.2 x.2.2.1) (fun x => (l.length - x.1) * 1000002 + kRest l x.1 x.2.2.2.1)))
def kSorts (xs : List IV) (h : Heap) (K : IV → Heap → Prop) : Prop := match xs with
  | [.vslice none e1 n1 3 c1] => ∃ l : List Nd, (n1 = l.length ∧ c1 = l.flatMap cN) ∧ ((∀ x ∈ l, x.ks.length ≤ 1000000 ∧ x.op ≠ 25 ∧ x.op ≠ 30 ∧ x.op ≠ 31) ∧ l.length ≤ 1000000) ∧ K (.vslice none 0 (sortsA l).length 1 ((sortsA l).map (IV.int .i64))) h
  | _ => False
noncomputable def z26h (l : List Nd) := List.flatMap cN l
noncomputable def z26m (l : List Nd) := l.length
noncomputable def z26a (l : List Nd) := TV.v (.vslice none 0 (z26m l) 3 (z26h l))
noncomputable def z26b  := IV.int .i64
noncomputable def z26c  := TV.v (.int .i64 0)
noncomputable def z26d  := [IV.int .i64 0]
noncomputable def z26e  := TV.v IV.nilslice
noncomputable def z26f  := TV.v (.bool true)
noncomputable def z26g  := TV.v (.int .i64 1)
noncomputable abbrev z26i (l l_1 : List Nd) := l.length = l_1.length ∧ List.flatMap cN l = List.flatMap cN l_1
noncomputable def z26j  := IObj.tip (1 : Nat)
noncomputable def z26k (l : List Nd) := true && decide (0 < (↑(z26m l) : Int))
noncomputable abbrev z26l (k : List Int) := (0 : Nat) = k.length ∧ [] = List.map z26b k
set_option maxRecDepth 100000 in
theorem vSorts (l : List Nd) (e1 : Nat) (h : Heap) (Q : IV → Heap → Prop) : dF (stdS cNSort) env 26 noU (icA 4 (soInv l) (ic1 1000009 (siInv l))) noI [.vslice none e1 (l).length 3 ((l).flatMap cN)] h Q = (
  needS (pureL [IV.vslice none 0 (z26m l) 3 (z26h l)]) (((∃ (x : Heap), some (z26a l) = some (z26a l) ∧ some z26c = some z26c ∧ some z26e = some z26e ∧ Heap.mk PT.nil 0 = x ∧ True ∧ True) ∨ ∃ (x : Nat × Nat × Heap), some (z26a l) = some (z26a l) ∧ some z26c = some (TV.v (.int
 .i64 (↑x.1 : Int))) ∧ some z26e = some (TV.v (.vslice (some x.2.1) x.1 x.1 1 (List.map z26b (sortsA (List.take x.1 l))))) ∧ Heap.mk PT.nil 0 = x.2.2 ∧ ((0 < x.1 ∧ x.1 ≤ l.length)
 ∧ Heap.get x.2.2 x.2.1 = IObj.tip x.1 ∧ x.2.1 < Heap.next x.2.2) ∧ True) ∧ (∀ (x : Heap) (b : FF), True → brS (decide (0 < (↑(z26m l) : Int))) (∃ (M : Nat), ((∃ (x_1 : Heap), some (z26a l) = some (z26a l) ∧ some z26c
 = some z26c ∧ some z26e = some z26e ∧ some z26e = some z26e ∧ some z26f = some z26f ∧ some z26c = some z26c ∧ x = x_1 ∧ Nat.le (1 : Nat) (z26m l) ∧ l.length * 1000002 + kRest l (0 : Nat) 0 ≤ M) ∨ (∃ (x_1 : Nat × Nat × Heap), some (z26a l) = some (z26a l) ∧ some z26c = some (TV.v
 (IV.int .i64 (↑x_1.1 : Int))) ∧ some z26e = some (TV.v (.vslice (some x_1.2.1) x_1.1 x_1.1 1 (List.map z26b (sortsA (List.take x_1.1 l))))) ∧ some z26e = some z26e ∧ some z26f = some z26f ∧ some z26c = some z26c ∧ x = Prod.snd (Prod.snd
 x_1) ∧ (x_1.1 < l.length ∧ SO l x_1.1 x_1.2.1 x_1.2.2) ∧ (l.length - x_1.1) * 1000002 + kRest l x_1.1 0 ≤ M) ∨ ∃ (x_1 : Nat × Nat × Heap × Nat × List Int × Nat), some (z26a l) = some (z26a l) ∧ some z26c = some
 (TV.v (.int .i64 (↑x_1.1 : Int))) ∧ some z26e = some (TV.v (.vslice (some x_1.2.1) x_1.1 x_1.1 1 (List.map z26b (sortsA (List.take x_1.1 l))))) ∧ some z26e = some (TV.v (.vslice (some (Prod.snd (Prod.snd (Prod.snd (Prod.snd (Prod.snd
 x_1)))))) x_1.2.2.2.2.1.length x_1.2.2.2.2.1.length 1 (List.map z26b x_1.2.2.2.2.1))) ∧ some z26f = some z26f ∧ some z26c = some (TV.v (.int .i64
 (↑x_1.2.2.2.1 : Int))) ∧ x = x_1.2.2.1 ∧ (x_1.1 < l.length ∧ SO l x_1.1 x_1.2.1 x_1.2.2.1 ∧ SI l x_1.1 x_1.2.2.2.1 (Prod.fst (Prod.snd
 x_1.2.2.2)) ∧ SK x_1.2.2.2.2.1 x_1.2.1 x_1.2.2.2.2.2 x_1.2.2.1) ∧ (l.length - x_1.1) * 1000002 + kRest l x_1.1
 x_1.2.2.2.1 ≤ M) ∧ (∀ (x : Heap) (b : FF), 0 < l.length → l.length * 1000002 + kRest l (0 : Nat) 0 ≤ M → needS (z26k l) (ldVS 1 (z26h l) 2 fun (i0 : Option Nat) (e1 l2 : Nat) (c3 : List IV) => brS (decide ((0 : Int)
 < (↑l2 : Int))) (needS (z26k l) (ldVS 1 (z26h l) 2 fun (i4 : Option Nat) (e5 l6 : Nat) (c7 : List IV) => needS (true && decide (0 < (↑l6 : Int))) (ldIS .i64 c7 0 fun n8 => brS (decide (n8 < 0)) ((∃ (x_1 : Heap), some (z26a l) = some (z26a l) ∧ some
 z26g = some z26c ∧ some (TV.v (.vslice (some (Heap.next x)) 1 1 1 z26d)) = some z26e ∧ Heap.push x z26j = x_1 ∧ True ∧ l.length < l.length) ∨ ∃ (x_1 : Nat × Nat × Heap), some (z26a l) = some (z26a l) ∧ some z26g = some (TV.v (.int .i64 (↑x_1.1 : Int)))
 ∧ some (TV.v (.vslice (some (Heap.next x)) 1 1 1 z26d)) = some (TV.v (.vslice (some x_1.2.1) x_1.1 x_1.1 1 (List.map z26b (sortsA (List.take x_1.1 l))))) ∧ Heap.push x z26j = x_1.2.2 ∧ ((0 < Prod.fst
 x_1 ∧ x_1.1 ≤ l.length) ∧ Heap.get x_1.2.2 x_1.2.1 = IObj.tip x_1.1 ∧ x_1.2.1 < Heap.next x_1.2.2) ∧ l.length - x_1.1 < l.length) (brS (decide (n8 ≥ 0)) ((∃ (x_1 : Heap), some (z26a l)
 = some (z26a l) ∧ some z26g = some z26c ∧ some (TV.v (.vslice (some (Heap.next x)) 1 1 1 z26d)) = some z26e ∧ Heap.push x z26j = x_1 ∧ True ∧ l.length < l.length) ∨ ∃ (x_1 : Nat × Nat × Heap), some (z26a l) = some (z26a l) ∧ some z26g = some (TV.v (.int .i64
 (↑x_1.1 : Int))) ∧ some (TV.v (.vslice (some (Heap.next x)) 1 1 1 z26d)) = some (TV.v (.vslice (some x_1.2.1) x_1.1 x_1.1 1 (List.map z26b (sortsA (List.take x_1.1 l))))) ∧ Heap.push x z26j = Prod.snd (Prod.snd
 x_1) ∧ ((0 < x_1.1 ∧ x_1.1 ≤ l.length) ∧ Heap.get x_1.2.2 x_1.2.1 = IObj.tip x_1.1 ∧ x_1.2.1 < Heap.next x_1.2.2) ∧ l.length - x_1.1 < l.length) False)))) (needS (z26k l) (ldIS .i64
 (z26h l) 0 fun n9 => ldIS .i64 (z26h l) 1 fun n10 => ldVS 1 (z26h l) 2 fun (i11 : Option Nat) (e12 l13 : Nat) (c14 : List IV) => ∃ (l_1 : List Nd), ∃ (ks k : List Int), (z26i l l_1) ∧ (l13 = ks.length ∧ c14 = List.map z26b ks)
 ∧ (z26l k) ∧ ((n9 ≠ 25 ∧ n9 ≠ 30 ∧ n9 ≠ 31) ∧ ks.length = k.length ∧ k.length ≤ 1000000000) ∧ ((∃ (x_1 : Heap), some (z26a l) = some (z26a l) ∧ some z26g = some z26c ∧ some (TV.v (.vslice (some (Heap.next x)) 1 1 1 [IV.int .i64
 (nsort n9 n10 k)])) = some z26e ∧ Heap.push x z26j = x_1 ∧ True ∧ l.length < l.length) ∨ ∃ (x_1 : Nat × Nat × Heap), some (z26a l) = some (z26a l) ∧ some z26g = some (TV.v (.int .i64 (↑x_1.1 : Int))) ∧ some (TV.v (.vslice (some (Heap.next x)) 1 1 1
 [IV.int .i64 (nsort n9 n10 k)])) = some (TV.v (.vslice (some x_1.2.1) x_1.1 x_1.1 1 (List.map z26b (sortsA (List.take x_1.1 l))))) ∧ Heap.push x z26j = x_1.2.2 ∧ ((0 < x_1.1 ∧ x_1.1 ≤ l.length) ∧
 Heap.get x_1.2.2 x_1.2.1 = IObj.tip x_1.1 ∧ x_1.2.1 < Heap.next x_1.2.2) ∧ l.length - x_1.1 < l.length))))) ∧ (∀ (x : Nat × Nat × Heap) (b : FF), x.1 < l.length ∧ SO l x.1 (Prod.fst (Prod.snd
 x)) x.2.2 → (l.length - x.1) * 1000002 + kRest l x.1 0 ≤ M → needS (decide (0 ≤ (↑x.1 : Int)) && decide ((↑x.1 : Int) < (↑(z26m l) : Int))) (ldVS 1 (z26h l) (Int.toNat (↑x.1 : Int) * 3 + (2 : Nat))
 fun (i15 : Option Nat) (e16 l17 : Nat) (c18 : List IV) => brS (decide (0 < (↑l17 : Int))) (needS (decide (0 ≤ (↑x.1 : Int)) && decide ((↑x.1 : Int) < (↑(z26m l) : Int))) (ldVS 1 (z26h l) (Int.toNat (↑x.1 : Int) * 3 + (2 : Nat)) fun (i19 : Option
 Nat) (e20 l21 : Nat) (c22 : List IV) => needS (true && decide (0 < (↑l21 : Int))) (ldIS .i64 c22 0 fun n23 => brS (decide (n23 < 0)) (tipS x.2.2 x.2.1 fun (m24 : Nat) => needS (Nat.beq m24 x.1 && Nat.ble ((x.1
 + (1 : Nat)) * 8) (140737488355328 : Nat)) ((∃ (x_1 : Heap), some (z26a l) = some (z26a l) ∧ some (TV.v (.int .i64 (IntKind.wrap .i64 ((↑x.1 : Int) + 1)))) = some z26c ∧ some (TV.v (.vslice (some x.2.1) (x.1 + 1) (x.1
 + (1 : Nat)) 1 (List.map z26b (sortsA (List.take x.1 l)) ++ z26d))) = some z26e ∧ Heap.set x.2.2 x.2.1 (IObj.tip (x.1 + 1)) = x_1 ∧ True ∧ l.length < l.length) ∨ ∃ (x_1 : Nat × Nat × Heap), some (z26a l) = some (z26a l) ∧ some
 (TV.v (.int .i64 (IntKind.wrap .i64 ((↑x.1 : Int) + 1)))) = some (TV.v (.int .i64 (↑x_1.1 : Int))) ∧ some (TV.v (.vslice (some x.2.1) (x.1 + 1) (x.1 + 1) 1 (List.map z26b (sortsA (List.take (Prod.fst
 x) l)) ++ z26d))) = some (TV.v (.vslice (some x_1.2.1) x_1.1 x_1.1 1 (List.map z26b (sortsA (List.take x_1.1 l))))) ∧ Heap.set x.2.2 x.2.1 (IObj.tip (x.1 + 1)) = x_1.2.2 ∧ (((0 :
 Nat) < x_1.1 ∧ x_1.1 ≤ l.length) ∧ Heap.get x_1.2.2 x_1.2.1 = IObj.tip x_1.1 ∧ x_1.2.1 < Heap.next x_1.2.2) ∧ l.length - x_1.1 < l.length)) (brS (decide (n23 ≥ (↑x.1 : Int))) (tipS
 x.2.2 x.2.1 fun (m25 : Nat) => needS (Nat.beq m25 x.1 && Nat.ble ((x.1 + 1) * 8) (140737488355328 : Nat)) ((∃ (x_1 : Heap), some (z26a l) = some (z26a l) ∧ some (TV.v (.int .i64 (IntKind.wrap .i64 ((↑x.1 : Int)
 + (1 : Int))))) = some z26c ∧ some (TV.v (.vslice (some x.2.1) (x.1 + 1) (x.1 + 1) 1 (List.map z26b (sortsA (List.take x.1 l)) ++ z26d))) = some z26e ∧ Heap.set x.2.2 x.2.1 (IObj.tip (x.1 + (1
 : Nat))) = x_1 ∧ True ∧ l.length < l.length) ∨ ∃ (x_1 : Nat × Nat × Heap), some (z26a l) = some (z26a l) ∧ some (TV.v (.int .i64 (IntKind.wrap .i64 ((↑x.1 : Int) + 1)))) = some (TV.v (.int .i64 (↑x_1.1 : Int))) ∧ some (TV.v (.vslice (some
 x.2.1) (x.1 + 1) (x.1 + 1) 1 (List.map z26b (sortsA (List.take x.1 l)) ++ z26d))) = some (TV.v (.vslice (some x_1.2.1) x_1.1 x_1.1 1 (List.map z26b (sortsA (List.take x_1.1 l))))) ∧
 Heap.set x.2.2 x.2.1 (IObj.tip (x.1 + 1)) = x_1.2.2 ∧ ((0 < x_1.1 ∧ x_1.1 ≤ l.length) ∧ Heap.get x_1.2.2 x_1.2.1 = IObj.tip x_1.1 ∧ x_1.2.1 < Heap.next
 x_1.2.2) ∧ l.length - x_1.1 < l.length)) (needS (decide (0 ≤ n23) && decide (n23 < (↑x.1 : Int))) (ldIS .i64 (List.map z26b (sortsA (List.take x.1 l))) (n23.toNat * 1) fun n26 => brS (n26 == 0) (tipS (Prod.snd
 x.2) x.2.1 fun (m27 : Nat) => needS (Nat.beq m27 x.1 && Nat.ble ((x.1 + 1) * 8) (140737488355328 : Nat)) ((∃ (x_1 : Heap), some (z26a l) = some (z26a l) ∧ some (TV.v (.int .i64 (IntKind.wrap .i64 ((↑x.1 : Int) + (1 :
 Int))))) = some z26c ∧ some (TV.v (.vslice (some x.2.1) (x.1 + 1) (x.1 + 1) 1 (List.map z26b (sortsA (List.take x.1 l)) ++ z26d))) = some z26e ∧ Heap.set x.2.2 x.2.1 (IObj.tip (x.1 + 1))
 = x_1 ∧ True ∧ l.length < l.length) ∨ ∃ (x_1 : Nat × Nat × Heap), some (z26a l) = some (z26a l) ∧ some (TV.v (.int .i64 (IntKind.wrap .i64 ((↑x.1 : Int) + 1)))) = some (TV.v (.int .i64 (↑x_1.1 : Int))) ∧ some (TV.v (.vslice (some (Prod.fst
 x.2)) (x.1 + 1) (x.1 + 1) 1 (List.map z26b (sortsA (List.take x.1 l)) ++ z26d))) = some (TV.v (.vslice (some x_1.2.1) x_1.1 x_1.1 1 (List.map z26b (sortsA (List.take x_1.1 l))))) ∧ Heap.set
 x.2.2 x.2.1 (IObj.tip (x.1 + 1)) = x_1.2.2 ∧ ((0 < x_1.1 ∧ x_1.1 ≤ l.length) ∧ Heap.get x_1.2.2 x_1.2.1 = IObj.tip x_1.1 ∧ x_1.2.1 < Heap.next (Prod.snd
 x_1.2)) ∧ l.length - x_1.1 < l.length)) (needS (decide (0 ≤ n23) && decide (n23 < (↑x.1 : Int))) (ldIS .i64 (List.map z26b (sortsA (List.take x.1 l))) (n23.toNat * 1) fun n28 => (∃ (x_1 : Heap), some (z26a l) = some (z26a
 l) ∧ some (TV.v (.int .i64 (↑x.1 : Int))) = some z26c ∧ some (TV.v (.vslice (some x.2.1) x.1 x.1 1 (List.map z26b (sortsA (List.take x.1 l))))) = some z26e ∧ some (TV.v (.vslice (some (Heap.next x.2.2)) (1 :
 Nat) 1 1 [IV.int .i64 n28])) = some z26e ∧ some z26f = some z26f ∧ some z26g = some z26c ∧ Heap.push x.2.2 z26j = x_1 ∧ Nat.le (1 : Nat) (z26m l) ∧ l.length * 1000002 + kRest l (0 : Nat) 0 < (l.length - x.1) * 1000002 +
 kRest l x.1 (0 : Nat)) ∨ (∃ (x_1 : Nat × Nat × Heap), some (z26a l) = some (z26a l) ∧ some (TV.v (.int .i64 (↑x.1 : Int))) = some (TV.v (.int .i64 (↑x_1.1 : Int))) ∧ some (TV.v (.vslice (some x.2.1) x.1 x.1 1 (List.map
 z26b (sortsA (List.take x.1 l))))) = some (TV.v (.vslice (some x_1.2.1) x_1.1 x_1.1 1 (List.map z26b (sortsA (List.take x_1.1 l))))) ∧ some (TV.v (.vslice (some (Heap.next x.2.2)) 1 1 1 [IV.int
 .i64 n28])) = some z26e ∧ some z26f = some z26f ∧ some z26g = some z26c ∧ Heap.push x.2.2 z26j = x_1.2.2 ∧ (x_1.1 < l.length ∧ SO l x_1.1 x_1.2.1 x_1.2.2) ∧ (l.length - x_1.1) * 1000002
 + kRest l x_1.1 0 < (l.length - x.1) * 1000002 + kRest l x.1 (0 : Nat)) ∨ ∃ (x_1 : Nat × Nat × Heap × Nat × List Int × Nat), some (z26a l) = some (z26a l) ∧ some (TV.v (.int .i64 (↑x.1 : Int))) = some (TV.v (.int .i64 (↑(Prod.fst
 x_1) : Int))) ∧ some (TV.v (.vslice (some x.2.1) x.1 x.1 1 (List.map z26b (sortsA (List.take x.1 l))))) = some (TV.v (.vslice (some x_1.2.1) x_1.1 x_1.1 1 (List.map z26b (sortsA (List.take x_1.1
 l))))) ∧ some (TV.v (.vslice (some (Heap.next x.2.2)) 1 1 1 [IV.int .i64 n28])) = some (TV.v (.vslice (some x_1.2.2.2.2.2) x_1.2.2.2.2.1.length (List.length
 x_1.2.2.2.2.1) 1 (List.map z26b x_1.2.2.2.2.1))) ∧ some z26f = some z26f ∧ some z26g = some (TV.v (.int .i64 (↑x_1.2.2.2.1 : Int))) ∧ Heap.push (Prod.snd (Prod.snd
 x)) z26j = x_1.2.2.1 ∧ (x_1.1 < l.length ∧ SO l x_1.1 x_1.2.1 x_1.2.2.1 ∧ SI l x_1.1 x_1.2.2.2.1 x_1.2.2.2.2.1 ∧ SK (Prod.fst
 x_1.2.2.2.2) x_1.2.1 x_1.2.2.2.2.2 x_1.2.2.1) ∧ (l.length - x_1.1) * 1000002 + kRest l x_1.1 x_1.2.2.2.1 < (List.length
 l - x.1) * 1000002 + kRest l x.1 (0 : Nat))))))))) (needS (decide (0 ≤ (↑x.1 : Int)) && decide ((↑x.1 : Int) < (↑(z26m l) : Int))) (ldIS .i64 (z26h l) (Int.toNat (↑x.1 : Int) * 3) fun n29 => ldIS .i64 (z26h l) (Int.toNat
 (↑x.1 : Int) * 3 + (1 : Nat)) fun n30 => ldVS 1 (z26h l) (Int.toNat (↑x.1 : Int) * 3 + (1 : Nat) + 1) fun (i31 : Option Nat) (e32 l33 : Nat) (c34 : List IV) => ∃ (l_1 : List Nd), ∃ (ks k : List Int), (z26i l l_1) ∧ (l33 = List.length
 ks ∧ c34 = List.map z26b ks) ∧ (z26l k) ∧ ((n29 ≠ 25 ∧ n29 ≠ 30 ∧ n29 ≠ 31) ∧ ks.length = k.length ∧ k.length ≤ 1000000000) ∧ tipS x.2.2 x.2.1 fun (m35 : Nat) => needS (Nat.beq m35 x.1 && Nat.ble ((x.1
 + (1 : Nat)) * 8) (140737488355328 : Nat)) ((∃ (x_1 : Heap), some (z26a l) = some (z26a l) ∧ some (TV.v (.int .i64 (IntKind.wrap .i64 ((↑x.1 : Int) + 1)))) = some z26c ∧ some (TV.v (.vslice (some x.2.1) (x.1 + 1) (x.1
 + (1 : Nat)) 1 (List.map z26b (sortsA (List.take x.1 l)) ++ [IV.int .i64 (nsort n29 n30 k)]))) = some z26e ∧ Heap.set x.2.2 x.2.1 (IObj.tip (x.1 + 1)) = x_1 ∧ True ∧ l.length < l.length) ∨ ∃ (x_1 : Nat × Nat × Heap),
 some (z26a l) = some (z26a l) ∧ some (TV.v (.int .i64 (IntKind.wrap .i64 ((↑x.1 : Int) + 1)))) = some (TV.v (.int .i64 (↑x_1.1 : Int))) ∧ some (TV.v (.vslice (some x.2.1) (x.1 + 1) (x.1 + 1) 1
 (List.map z26b (sortsA (List.take x.1 l)) ++ [IV.int .i64 (nsort n29 n30 k)]))) = some (TV.v (.vslice (some x_1.2.1) x_1.1 x_1.1 1 (List.map z26b (sortsA (List.take x_1.1 l))))) ∧ Heap.set x.2.2 (Prod.fst (Prod.snd
 x)) (IObj.tip (x.1 + 1)) = x_1.2.2 ∧ ((0 < x_1.1 ∧ x_1.1 ≤ l.length) ∧ Heap.get x_1.2.2 x_1.2.1 = IObj.tip x_1.1 ∧ x_1.2.1 < Heap.next x_1.2.2) ∧ l.length - Prod.fst
 x_1 < l.length))))) ∧ ∀ (x : Nat × Nat × Heap × Nat × List Int × Nat) (b : FF), x.1 < l.length ∧ SO l x.1 x.2.1 x.2.2.1 ∧ SI l x.1 x.2.2.2.1 (Prod.fst (Prod.snd (Prod.snd (Prod.snd (Prod.snd
 x))))) ∧ SK x.2.2.2.2.1 x.2.1 x.2.2.2.2.2 x.2.2.1 → (l.length - x.1) * 1000002 + kRest l x.1 x.2.2.2.1
 ≤ M → needS (decide (0 ≤ (↑x.1 : Int)) && decide ((↑x.1 : Int) < (↑(z26m l) : Int))) (ldVS 1 (z26h l) (Int.toNat (↑x.1 : Int) * 3 + (2 : Nat)) fun (i36 : Option Nat) (e37 l38 : Nat) (c39 : List IV) => brS (decide ((↑(Prod.fst (Prod.snd (Prod.snd (Prod.snd
 x)))) : Int) < (↑l38 : Int))) (needS (decide (0 ≤ (↑x.1 : Int)) && decide ((↑x.1 : Int) < (↑(z26m l) : Int))) (ldVS 1 (z26h l) (Int.toNat (↑x.1 : Int) * 3 + (2 : Nat)) fun (i40 : Option Nat) (e41 l42 : Nat) (c43 : List IV) => needS (decide ((0 : Int)
 ≤ (↑x.2.2.2.1 : Int)) && decide ((↑x.2.2.2.1 : Int) < (↑l42 : Int))) (ldIS .i64 c43 (Int.toNat (↑x.2.2.2.1 : Int) * 1) fun n44 => brS (decide (n44 < 0)) (tipS (Prod.fst
 x.2.2) x.2.1 fun (m45 : Nat) => needS (Nat.beq m45 x.1 && Nat.ble ((x.1 + 1) * 8) (140737488355328 : Nat)) ((∃ (x_1 : Heap), some (z26a l) = some (z26a l) ∧ some (TV.v (.int .i64 (IntKind.wrap .i64 ((↑x.1 : Int)
 + (1 : Int))))) = some z26c ∧ some (TV.v (.vslice (some x.2.1) (x.1 + 1) (x.1 + 1) 1 (List.map z26b (sortsA (List.take x.1 l)) ++ z26d))) = some z26e ∧ Heap.set x.2.2.1 x.2.1 (IObj.tip (Prod.fst
 x + 1)) = x_1 ∧ True ∧ l.length < l.length) ∨ ∃ (x_1 : Nat × Nat × Heap), some (z26a l) = some (z26a l) ∧ some (TV.v (.int .i64 (IntKind.wrap .i64 ((↑x.1 : Int) + 1)))) = some (TV.v (.int .i64 (↑x_1.1 : Int))) ∧ some (TV.v (.vslice
 (some x.2.1) (x.1 + 1) (x.1 + 1) (1 : Nat) (List.map z26b (sortsA (List.take x.1 l)) ++ z26d))) = some (TV.v (.vslice (some x_1.2.1) x_1.1 x_1.1 1 (List.map z26b (sortsA (List.take x_1.1 l)))))
 ∧ Heap.set x.2.2.1 x.2.1 (IObj.tip (x.1 + 1)) = x_1.2.2 ∧ ((0 < x_1.1 ∧ x_1.1 ≤ l.length) ∧ Heap.get x_1.2.2 x_1.2.1 = IObj.tip x_1.1 ∧ Prod.fst (Prod.snd
 x_1) < Heap.next x_1.2.2) ∧ l.length - x_1.1 < l.length)) (brS (decide (n44 ≥ (↑x.1 : Int))) (tipS x.2.2.1 x.2.1 fun (m46 : Nat) => needS (Nat.beq m46 x.1 && Nat.ble ((x.1 + 1) * 8)
 (140737488355328 : Nat)) ((∃ (x_1 : Heap), some (z26a l) = some (z26a l) ∧ some (TV.v (.int .i64 (IntKind.wrap .i64 ((↑x.1 : Int) + 1)))) = some z26c ∧ some (TV.v (.vslice (some x.2.1) (x.1 + 1) (x.1 + 1) 1 (List.map
 z26b (sortsA (List.take x.1 l)) ++ z26d))) = some z26e ∧ Heap.set x.2.2.1 x.2.1 (IObj.tip (x.1 + 1)) = x_1 ∧ True ∧ l.length < l.length) ∨ ∃ (x_1 : Nat × Nat × Heap), some (z26a l) = some (z26a l) ∧ some (TV.v (.int .i64
 (IntKind.wrap .i64 ((↑x.1 : Int) + 1)))) = some (TV.v (.int .i64 (↑x_1.1 : Int))) ∧ some (TV.v (.vslice (some x.2.1) (x.1 + 1) (x.1 + 1) 1 (List.map z26b (sortsA (List.take x.1 l)) ++ z26d)))
 = some (TV.v (.vslice (some x_1.2.1) x_1.1 x_1.1 1 (List.map z26b (sortsA (List.take x_1.1 l))))) ∧ Heap.set x.2.2.1 x.2.1 (IObj.tip (x.1 + 1)) = x_1.2.2 ∧ (((0 : Nat) <
 x_1.1 ∧ x_1.1 ≤ l.length) ∧ Heap.get x_1.2.2 x_1.2.1 = IObj.tip x_1.1 ∧ x_1.2.1 < Heap.next x_1.2.2) ∧ l.length - x_1.1 < l.length)) (needS (decide (0 ≤ n44) && decide (n44 < (↑(Prod.fst
 x) : Int))) (ldIS .i64 (List.map z26b (sortsA (List.take x.1 l))) (n44.toNat * 1) fun n47 => brS (n47 == 0) (tipS x.2.2.1 x.2.1 fun (m48 : Nat) => needS (Nat.beq m48 x.1 && Nat.ble ((x.1 + 1)
 * (8 : Nat)) (140737488355328 : Nat)) ((∃ (x_1 : Heap), some (z26a l) = some (z26a l) ∧ some (TV.v (.int .i64 (IntKind.wrap .i64 ((↑x.1 : Int) + 1)))) = some z26c ∧ some (TV.v (.vslice (some x.2.1) (x.1 + 1) (x.1 + 1)
 1 (List.map z26b (sortsA (List.take x.1 l)) ++ z26d))) = some z26e ∧ Heap.set x.2.2.1 x.2.1 (IObj.tip (x.1 + 1)) = x_1 ∧ True ∧ l.length < l.length) ∨ ∃ (x_1 : Nat × Nat × Heap), some (z26a l) = some (z26a l) ∧ some
 (TV.v (.int .i64 (IntKind.wrap .i64 ((↑x.1 : Int) + 1)))) = some (TV.v (.int .i64 (↑x_1.1 : Int))) ∧ some (TV.v (.vslice (some x.2.1) (x.1 + 1) (x.1 + 1) 1 (List.map z26b (sortsA (List.take (Prod.fst
 x) l)) ++ z26d))) = some (TV.v (.vslice (some x_1.2.1) x_1.1 x_1.1 1 (List.map z26b (sortsA (List.take x_1.1 l))))) ∧ Heap.set x.2.2.1 x.2.1 (IObj.tip (x.1 + 1)) = x_1.2.2
 ∧ ((0 < x_1.1 ∧ x_1.1 ≤ l.length) ∧ Heap.get x_1.2.2 x_1.2.1 = IObj.tip x_1.1 ∧ x_1.2.1 < Heap.next x_1.2.2) ∧ l.length - x_1.1 < l.length)) (needS (decide (0 ≤ n44) && decide
 (n44 < (↑x.1 : Int))) (ldIS .i64 (List.map z26b (sortsA (List.take x.1 l))) (n44.toNat * 1) fun n49 => tipS x.2.2.1 x.2.2.2.2.2 fun (m50 : Nat) => needS (Nat.beq m50 (List.length (Prod.fst
 x.2.2.2.2)) && Nat.ble ((x.2.2.2.2.1.length + 1) * 8) (140737488355328 : Nat)) ((∃ (x_1 : Heap), some (z26a l) = some (z26a l) ∧ some (TV.v (.int .i64 (↑x.1 : Int))) = some z26c ∧ some
 (TV.v (.vslice (some x.2.1) x.1 x.1 1 (List.map z26b (sortsA (List.take x.1 l))))) = some z26e ∧ some (TV.v (.vslice (some x.2.2.2.2.2) (List.length (Prod.fst (Prod.snd (Prod.snd (Prod.snd (Prod.snd
 x))))) + 1) (x.2.2.2.2.1.length + 1) 1 (List.map z26b x.2.2.2.2.1 ++ [IV.int .i64 n49]))) = some z26e ∧ some z26f = some z26f ∧ some (TV.v (.int .i64 (IntKind.wrap .i64
 ((↑x.2.2.2.1 : Int) + 1)))) = some z26c ∧ Heap.set x.2.2.1 x.2.2.2.2.2 (IObj.tip (x.2.2.2.2.1.length + 1)) = x_1 ∧ Nat.le (1 :
 Nat) (z26m l) ∧ l.length * 1000002 + kRest l (0 : Nat) 0 < (l.length - x.1) * 1000002 + kRest l x.1 x.2.2.2.1) ∨ (∃ (x_1 : Nat × Nat × Heap), some (z26a l) = some (z26a l) ∧ some (TV.v (.int .i64 (↑(Prod.fst
 x) : Int))) = some (TV.v (.int .i64 (↑x_1.1 : Int))) ∧ some (TV.v (.vslice (some x.2.1) x.1 x.1 1 (List.map z26b (sortsA (List.take x.1 l))))) = some (TV.v (.vslice (some x_1.2.1) x_1.1 x_1.1
 1 (List.map z26b (sortsA (List.take x_1.1 l))))) ∧ some (TV.v (.vslice (some x.2.2.2.2.2) (x.2.2.2.2.1.length + 1) (x.2.2.2.2.1.length
 + (1 : Nat)) 1 (List.map z26b x.2.2.2.2.1 ++ [IV.int .i64 n49]))) = some z26e ∧ some z26f = some z26f ∧ some (TV.v (.int .i64 (IntKind.wrap .i64 ((↑x.2.2.2.1 : Int) + 1)))) = some z26c
 ∧ Heap.set x.2.2.1 x.2.2.2.2.2 (IObj.tip (x.2.2.2.2.1.length + 1)) = x_1.2.2 ∧ (x_1.1 < l.length ∧ SO l x_1.1 x_1.2.1
 x_1.2.2) ∧ (l.length - x_1.1) * 1000002 + kRest l x_1.1 0 < (l.length - x.1) * 1000002 + kRest l x.1 x.2.2.2.1) ∨ ∃ (x_1 : Nat × Nat × Heap × Nat × List Int × Nat), some (z26a l) =
 some (z26a l) ∧ some (TV.v (.int .i64 (↑x.1 : Int))) = some (TV.v (.int .i64 (↑x_1.1 : Int))) ∧ some (TV.v (.vslice (some x.2.1) x.1 x.1 1 (List.map z26b (sortsA (List.take x.1 l))))) = some (TV.v (.vslice (some
 x_1.2.1) x_1.1 x_1.1 1 (List.map z26b (sortsA (List.take x_1.1 l))))) ∧ some (TV.v (.vslice (some x.2.2.2.2.2) (x.2.2.2.2.1.length + 1) (List.length
 x.2.2.2.2.1 + 1) 1 (List.map z26b x.2.2.2.2.1 ++ [IV.int .i64 n49]))) = some (TV.v (.vslice (some x_1.2.2.2.2.2) (List.length (Prod.fst (Prod.snd
 x_1.2.2.2))) x_1.2.2.2.2.1.length 1 (List.map z26b x_1.2.2.2.2.1))) ∧ some z26f = some z26f ∧ some (TV.v (.int .i64 (IntKind.wrap .i64 ((↑(Prod.fst (Prod.snd
 x.2.2)) : Int) + 1)))) = some (TV.v (.int .i64 (↑x_1.2.2.2.1 : Int))) ∧ Heap.set x.2.2.1 x.2.2.2.2.2 (IObj.tip (List.length (Prod.fst (Prod.snd (Prod.snd (Prod.snd
 x.2)))) + 1)) = x_1.2.2.1 ∧ (x_1.1 < l.length ∧ SO l x_1.1 x_1.2.1 x_1.2.2.1 ∧ SI l x_1.1 x_1.2.2.2.1 (Prod.fst (Prod.snd (Prod.snd (Prod.snd (Prod.snd
 x_1))))) ∧ SK x_1.2.2.2.2.1 x_1.2.1 x_1.2.2.2.2.2 x_1.2.2.1) ∧ (l.length - x_1.1) * 1000002 + kRest l x_1.1 (Prod.fst (Prod.snd (Prod.snd
 x_1.2))) < (l.length - x.1) * 1000002 + kRest l x.1 x.2.2.2.1))))))))) (needS (decide (0 ≤ (↑x.1 : Int)) && decide ((↑x.1 : Int) < (↑(z26m l) : Int))) (ldIS .i64 (z26h l) (Int.toNat (↑(Prod.fst
 x) : Int) * 3) fun n51 => ldIS .i64 (z26h l) (Int.toNat (↑x.1 : Int) * 3 + (1 : Nat)) fun n52 => ldVS 1 (z26h l) (Int.toNat (↑x.1 : Int) * 3 + (1 : Nat) + 1) fun (i53 : Option Nat) (e54 l55 : Nat) (c56 : List IV) => ∃ (l_1
 : List Nd), ∃ (ks k : List Int), (z26i l l_1) ∧ (l55 = ks.length ∧ c56 = List.map z26b ks) ∧ (x.2.2.2.2.1.length = k.length ∧ List.map z26b x.2.2.2.2.1 = List.map z26b k) ∧ ((n51 ≠
 (25 : Int) ∧ n51 ≠ 30 ∧ n51 ≠ 31) ∧ ks.length = k.length ∧ k.length ≤ 1000000000) ∧ tipS x.2.2.1 x.2.1 fun (m57 : Nat) => needS (Nat.beq m57 x.1 && Nat.ble ((x.1 + 1) * 8) (140737488355328
 : Nat)) ((∃ (x_1 : Heap), some (z26a l) = some (z26a l) ∧ some (TV.v (.int .i64 (IntKind.wrap .i64 ((↑x.1 : Int) + 1)))) = some z26c ∧ some (TV.v (.vslice (some x.2.1) (x.1 + 1) (x.1 + 1) 1 (List.map z26b (sortsA
 (List.take x.1 l)) ++ [IV.int .i64 (nsort n51 n52 k)]))) = some z26e ∧ Heap.set x.2.2.1 x.2.1 (IObj.tip (x.1 + 1)) = x_1 ∧ True ∧ l.length < l.length) ∨ ∃ (x_1 : Nat × Nat × Heap), some (z26a l) = some (z26a l) ∧ some
 (TV.v (.int .i64 (IntKind.wrap .i64 ((↑x.1 : Int) + 1)))) = some (TV.v (.int .i64 (↑x_1.1 : Int))) ∧ some (TV.v (.vslice (some x.2.1) (x.1 + 1) (x.1 + 1) 1 (List.map z26b (sortsA (List.take (Prod.fst
 x) l)) ++ [IV.int .i64 (nsort n51 n52 k)]))) = some (TV.v (.vslice (some x_1.2.1) x_1.1 x_1.1 1 (List.map z26b (sortsA (List.take x_1.1 l))))) ∧ Heap.set x.2.2.1 x.2.1 (IObj.tip (x.1 + (1
 : Nat))) = x_1.2.2 ∧ ((0 < x_1.1 ∧ x_1.1 ≤ l.length) ∧ Heap.get x_1.2.2 x_1.2.1 = IObj.tip x_1.1 ∧ x_1.2.1 < Heap.next x_1.2.2) ∧ l.length - x_1.1 < l.length)))))
 (Q (.vslice none 0 0 1 []) h)) ∧ ∀ (x : Nat × Nat × Heap) (b : FF), SO l x.1 x.2.1 x.2.2 → brS (decide ((↑x.1 : Int) < (↑(z26m l) : Int))) (∃ (M : Nat), ((∃ (x_1 : Heap), some (z26a l) = some (z26a l) ∧ some (TV.v (.int
 .i64 (↑x.1 : Int))) = some z26c ∧ some (TV.v (.vslice (some x.2.1) x.1 x.1 1 (List.map z26b (sortsA (List.take x.1 l))))) = some z26e ∧ some z26e = some z26e ∧ some z26f = some z26f ∧ some z26c = some z26c ∧ x.2.2
 = x_1 ∧ Nat.le (1 : Nat) (z26m l) ∧ l.length * 1000002 + kRest l (0 : Nat) 0 ≤ M) ∨ (∃ (x_1 : Nat × Nat × Heap), some (z26a l) = some (z26a l) ∧ some (TV.v (.int .i64 (↑x.1 : Int))) = some (TV.v (.int .i64 (↑x_1.1 : Int))) ∧ some (TV.v (.vslice
 (some x.2.1) x.1 x.1 (1 : Nat) (List.map z26b (sortsA (List.take x.1 l))))) = some (TV.v (.vslice (some x_1.2.1) x_1.1 x_1.1 1 (List.map z26b (sortsA (List.take x_1.1 l))))) ∧ some z26e = some z26e ∧ some
 z26f = some z26f ∧ some z26c = some z26c ∧ x.2.2 = x_1.2.2 ∧ (x_1.1 < l.length ∧ SO l x_1.1 x_1.2.1 x_1.2.2) ∧ (l.length - x_1.1) * 1000002 + kRest l x_1.1 0 ≤ M) ∨ ∃ (x_1 : Nat
 × Nat × Heap × Nat × List Int × Nat), some (z26a l) = some (z26a l) ∧ some (TV.v (.int .i64 (↑x.1 : Int))) = some (TV.v (.int .i64 (↑x_1.1 : Int))) ∧ some (TV.v (.vslice (some x.2.1) x.1 x.1 1 (List.map z26b (sortsA (List.take
 x.1 l))))) = some (TV.v (.vslice (some x_1.2.1) x_1.1 x_1.1 1 (List.map z26b (sortsA (List.take x_1.1 l))))) ∧ some z26e = some (TV.v (.vslice (some x_1.2.2.2.2.2) (List.length (Prod.fst (Prod.snd
 x_1.2.2.2))) x_1.2.2.2.2.1.length 1 (List.map z26b x_1.2.2.2.2.1))) ∧ some z26f = some z26f ∧ some z26c = some (TV.v (.int .i64 (↑(Prod.fst (Prod.snd (Prod.snd
 x_1.2))) : Int))) ∧ x.2.2 = x_1.2.2.1 ∧ (x_1.1 < l.length ∧ SO l x_1.1 x_1.2.1 x_1.2.2.1 ∧ SI l x_1.1 x_1.2.2.2.1 (Prod.fst (Prod.snd (Prod.snd
 x_1.2.2))) ∧ SK x_1.2.2.2.2.1 x_1.2.1 x_1.2.2.2.2.2 x_1.2.2.1) ∧ (l.length - x_1.1) * 1000002 + kRest l x_1.1 (Prod.fst
 x_1.2.2.2) ≤ M) ∧ (∀ (x_1 : Heap) (b : FF), 0 < l.length → l.length * 1000002 + kRest l (0 : Nat) 0 ≤ M → needS (z26k l) (ldVS 1 (z26h l) 2 fun (i58 : Option Nat) (e59 l60 : Nat) (c61 : List IV) => brS (decide (0 < (↑l60
 : Int))) (needS (z26k l) (ldVS 1 (z26h l) 2 fun (i62 : Option Nat) (e63 l64 : Nat) (c65 : List IV) => needS (true && decide (0 < (↑l64 : Int))) (ldIS .i64 c65 0 fun n66 => brS (decide (n66 < 0)) ((∃ (x_2 : Heap), some (z26a l) = some (z26a l) ∧ some
 z26g = some z26c ∧ some (TV.v (.vslice (some (Heap.next x_1)) 1 1 1 z26d)) = some z26e ∧ Heap.push x_1 z26j = x_2 ∧ True ∧ l.length < l.length - x.1) ∨ ∃ (x_2 : Nat × Nat × Heap), some (z26a l) = some (z26a l) ∧ some z26g = some (TV.v (.int .i64 (↑(Prod.fst
 x_2) : Int))) ∧ some (TV.v (.vslice (some (Heap.next x_1)) 1 1 1 z26d)) = some (TV.v (.vslice (some x_2.2.1) x_2.1 x_2.1 1 (List.map z26b (sortsA (List.take x_2.1 l))))) ∧ Heap.push x_1 z26j = x_2.2.2 ∧ (((0
 : Nat) < x_2.1 ∧ x_2.1 ≤ l.length) ∧ Heap.get x_2.2.2 x_2.2.1 = IObj.tip x_2.1 ∧ x_2.2.1 < Heap.next x_2.2.2) ∧ l.length - x_2.1 < l.length - x.1) (brS (decide (n66 ≥ 0))
 ((∃ (x_2 : Heap), some (z26a l) = some (z26a l) ∧ some z26g = some z26c ∧ some (TV.v (.vslice (some (Heap.next x_1)) 1 1 1 z26d)) = some z26e ∧ Heap.push x_1 z26j = x_2 ∧ True ∧ l.length < l.length - x.1) ∨ ∃ (x_2 : Nat × Nat × Heap), some (z26a l) = some (z26a
 l) ∧ some z26g = some (TV.v (.int .i64 (↑x_2.1 : Int))) ∧ some (TV.v (.vslice (some (Heap.next x_1)) 1 1 1 z26d)) = some (TV.v (.vslice (some x_2.2.1) x_2.1 x_2.1 1 (List.map z26b (sortsA (List.take x_2.1
 l))))) ∧ Heap.push x_1 z26j = x_2.2.2 ∧ ((0 < x_2.1 ∧ x_2.1 ≤ l.length) ∧ Heap.get x_2.2.2 x_2.2.1 = IObj.tip x_2.1 ∧ x_2.2.1 < Heap.next x_2.2.2) ∧ l.length - x_2.1 <
 l.length - x.1) False)))) (needS (z26k l) (ldIS .i64 (z26h l) 0 fun n67 => ldIS .i64 (z26h l) 1 fun n68 => ldVS 1 (z26h l) 2 fun (i69 : Option Nat) (e70 l71 : Nat) (c72 : List IV) => ∃ (l_1 : List Nd), ∃ (ks : List Int), ∃ (k :
 List Int), (z26i l l_1) ∧ (l71 = ks.length ∧ c72 = List.map z26b ks) ∧ (z26l k) ∧ ((n67 ≠ 25 ∧ n67 ≠ 30 ∧ n67 ≠ 31) ∧ ks.length = k.length ∧ k.length ≤ 1000000000) ∧ ((∃ (x_2 : Heap), some (z26a l) = some (z26a l) ∧ some z26g = some z26c ∧ some (TV.v
 (IV.vslice (some (Heap.next x_1)) 1 1 1 [IV.int .i64 (nsort n67 n68 k)])) = some z26e ∧ Heap.push x_1 z26j = x_2 ∧ True ∧ l.length < l.length - x.1) ∨ ∃ (x_2 : Nat × Nat × Heap), some (z26a l) = some (z26a l) ∧ some z26g = some (TV.v (.int .i64
 (↑x_2.1 : Int))) ∧ some (TV.v (.vslice (some (Heap.next x_1)) 1 1 1 [IV.int .i64 (nsort n67 n68 k)])) = some (TV.v (.vslice (some x_2.2.1) x_2.1 x_2.1 1 (List.map z26b (sortsA (List.take x_2.1 l))))) ∧ Heap.push
 x_1 z26j = x_2.2.2 ∧ ((0 < x_2.1 ∧ x_2.1 ≤ l.length) ∧ Heap.get x_2.2.2 x_2.2.1 = IObj.tip x_2.1 ∧ x_2.2.1 < Heap.next x_2.2.2) ∧ l.length - x_2.1 < l.length - Prod.fst
 x))))) ∧ (∀ (x_1 : Nat × Nat × Heap) (b : FF), x_1.1 < l.length ∧ SO l x_1.1 x_1.2.1 x_1.2.2 → (l.length - x_1.1) * 1000002 + kRest l x_1.1 0 ≤ M → needS (decide (0 ≤ (↑x_1.1 : Int)) && decide
 ((↑x_1.1 : Int) < (↑(z26m l) : Int))) (ldVS 1 (z26h l) (Int.toNat (↑x_1.1 : Int) * 3 + (2 : Nat)) fun (i73 : Option Nat) (e74 l75 : Nat) (c76 : List IV) => brS (decide (0 < (↑l75 : Int))) (needS (decide (0 ≤ (↑x_1.1 : Int)) && decide ((↑(Prod.fst
 x_1) : Int) < (↑(z26m l) : Int))) (ldVS 1 (z26h l) (Int.toNat (↑x_1.1 : Int) * 3 + (2 : Nat)) fun (i77 : Option Nat) (e78 l79 : Nat) (c80 : List IV) => needS (true && decide (0 < (↑l79 : Int))) (ldIS .i64 c80 0 fun n81 => brS (decide (n81 < (0 :
 Int))) (tipS x_1.2.2 x_1.2.1 fun (m82 : Nat) => needS (Nat.beq m82 x_1.1 && Nat.ble ((x_1.1 + 1) * 8) (140737488355328 : Nat)) ((∃ (x_2 : Heap), some (z26a l) = some (z26a l) ∧ some (TV.v (.int .i64 (IntKind.wrap .i64
 ((↑x_1.1 : Int) + 1)))) = some z26c ∧ some (TV.v (.vslice (some x_1.2.1) (x_1.1 + 1) (x_1.1 + 1) 1 (List.map z26b (sortsA (List.take x_1.1 l)) ++ z26d))) = some z26e ∧ Heap.set x_1.2.2 (Prod.fst (Prod.snd
 x_1)) (IObj.tip (x_1.1 + 1)) = x_2 ∧ True ∧ l.length < l.length - x.1) ∨ ∃ (x_2 : Nat × Nat × Heap), some (z26a l) = some (z26a l) ∧ some (TV.v (.int .i64 (IntKind.wrap .i64 ((↑x_1.1 : Int) + 1)))) = some (TV.v (.int .i64 (↑(Prod.fst
 x_2) : Int))) ∧ some (TV.v (.vslice (some x_1.2.1) (x_1.1 + 1) (x_1.1 + 1) 1 (List.map z26b (sortsA (List.take x_1.1 l)) ++ z26d))) = some (TV.v (.vslice (some x_2.2.1) x_2.1 x_2.1 1 (List.map
 z26b (sortsA (List.take x_2.1 l))))) ∧ Heap.set x_1.2.2 x_1.2.1 (IObj.tip (x_1.1 + 1)) = x_2.2.2 ∧ ((0 < x_2.1 ∧ x_2.1 ≤ l.length) ∧ Heap.get x_2.2.2 x_2.2.1 = IObj.tip
 x_2.1 ∧ x_2.2.1 < Heap.next x_2.2.2) ∧ l.length - x_2.1 < l.length - x.1)) (brS (decide (n81 ≥ (↑x_1.1 : Int))) (tipS x_1.2.2 x_1.2.1 fun (m83 : Nat) => needS (Nat.beq m83 x_1.1 &&
 Nat.ble ((x_1.1 + 1) * 8) (140737488355328 : Nat)) ((∃ (x_2 : Heap), some (z26a l) = some (z26a l) ∧ some (TV.v (.int .i64 (IntKind.wrap .i64 ((↑x_1.1 : Int) + 1)))) = some z26c ∧ some (TV.v (.vslice (some x_1.2.1) (Prod.fst
 x_1 + 1) (x_1.1 + 1) 1 (List.map z26b (sortsA (List.take x_1.1 l)) ++ z26d))) = some z26e ∧ Heap.set x_1.2.2 x_1.2.1 (IObj.tip (x_1.1 + 1)) = x_2 ∧ True ∧ l.length < l.length - x.1) ∨ ∃ (x_2 :
 Nat × Nat × Heap), some (z26a l) = some (z26a l) ∧ some (TV.v (.int .i64 (IntKind.wrap .i64 ((↑x_1.1 : Int) + 1)))) = some (TV.v (.int .i64 (↑x_2.1 : Int))) ∧ some (TV.v (.vslice (some x_1.2.1) (x_1.1 + 1) (Prod.fst
 x_1 + 1) 1 (List.map z26b (sortsA (List.take x_1.1 l)) ++ z26d))) = some (TV.v (.vslice (some x_2.2.1) x_2.1 x_2.1 1 (List.map z26b (sortsA (List.take x_2.1 l))))) ∧ Heap.set x_1.2.2 (Prod.fst (Prod.snd
 x_1)) (IObj.tip (x_1.1 + 1)) = x_2.2.2 ∧ ((0 < x_2.1 ∧ x_2.1 ≤ l.length) ∧ Heap.get x_2.2.2 x_2.2.1 = IObj.tip x_2.1 ∧ x_2.2.1 < Heap.next x_2.2.2) ∧ l.length
 - x_2.1 < l.length - x.1)) (needS (decide (0 ≤ n81) && decide (n81 < (↑x_1.1 : Int))) (ldIS .i64 (List.map z26b (sortsA (List.take x_1.1 l))) (n81.toNat * 1) fun n84 => brS (n84 == 0) (tipS x_1.2.2 (Prod.fst
 x_1.2) fun (m85 : Nat) => needS (Nat.beq m85 x_1.1 && Nat.ble ((x_1.1 + 1) * 8) (140737488355328 : Nat)) ((∃ (x_2 : Heap), some (z26a l) = some (z26a l) ∧ some (TV.v (.int .i64 (IntKind.wrap .i64 ((↑x_1.1 : Int) + 1)))) = some
 z26c ∧ some (TV.v (.vslice (some x_1.2.1) (x_1.1 + 1) (x_1.1 + 1) 1 (List.map z26b (sortsA (List.take x_1.1 l)) ++ z26d))) = some z26e ∧ Heap.set x_1.2.2 x_1.2.1 (IObj.tip (x_1.1 + 1))
 = x_2 ∧ True ∧ l.length < l.length - x.1) ∨ ∃ (x_2 : Nat × Nat × Heap), some (z26a l) = some (z26a l) ∧ some (TV.v (.int .i64 (IntKind.wrap .i64 ((↑x_1.1 : Int) + 1)))) = some (TV.v (.int .i64 (↑x_2.1 : Int))) ∧ some (TV.v (.vslice
 (some x_1.2.1) (x_1.1 + 1) (x_1.1 + 1) (1 : Nat) (List.map z26b (sortsA (List.take x_1.1 l)) ++ z26d))) = some (TV.v (.vslice (some x_2.2.1) x_2.1 x_2.1 1 (List.map z26b (sortsA (List.take (Prod.fst
 x_2) l))))) ∧ Heap.set x_1.2.2 x_1.2.1 (IObj.tip (x_1.1 + 1)) = x_2.2.2 ∧ ((0 < x_2.1 ∧ x_2.1 ≤ l.length) ∧ Heap.get x_2.2.2 x_2.2.1 = IObj.tip x_2.1 ∧ Prod.fst (Prod.snd
 x_2) < Heap.next x_2.2.2) ∧ l.length - x_2.1 < l.length - x.1)) (needS (decide (0 ≤ n81) && decide (n81 < (↑x_1.1 : Int))) (ldIS .i64 (List.map z26b (sortsA (List.take x_1.1 l))) (n81.toNat * 1) fun n86 =>
 (∃ (x : Heap), some (z26a l) = some (z26a l) ∧ some (TV.v (.int .i64 (↑x_1.1 : Int))) = some z26c ∧ some (TV.v (.vslice (some x_1.2.1) x_1.1 x_1.1 1 (List.map z26b (sortsA (List.take x_1.1 l))))) = some z26e ∧ some (TV.v (.vslice
 (some (Heap.next x_1.2.2)) (1 : Nat) (1 : Nat) 1 [IV.int .i64 n86])) = some z26e ∧ some z26f = some z26f ∧ some z26g = some z26c ∧ Heap.push x_1.2.2 z26j = x ∧ Nat.le (1 : Nat) (z26m l) ∧ l.length * 1000002 + kRest l (0 : Nat) (0 : Nat)
 < (l.length - x_1.1) * 1000002 + kRest l x_1.1 (0 : Nat)) ∨ (∃ (x : Nat × Nat × Heap), some (z26a l) = some (z26a l) ∧ some (TV.v (.int .i64 (↑x_1.1 : Int))) = some (TV.v (.int .i64 (↑x.1 : Int))) ∧ some (TV.v (.vslice (some (Prod.fst
 x_1.2)) x_1.1 x_1.1 1 (List.map z26b (sortsA (List.take x_1.1 l))))) = some (TV.v (.vslice (some x.2.1) x.1 x.1 1 (List.map z26b (sortsA (List.take x.1 l))))) ∧ some (TV.v (.vslice (some (Heap.next (Prod.snd
 x_1.2))) 1 1 1 [IV.int .i64 n86])) = some z26e ∧ some z26f = some z26f ∧ some z26g = some z26c ∧ Heap.push x_1.2.2 z26j = x.2.2 ∧ (x.1 < l.length ∧ SO l x.1 x.2.1 x.2.2)
 ∧ (l.length - x.1) * 1000002 + kRest l x.1 0 < (l.length - x_1.1) * 1000002 + kRest l x_1.1 (0 : Nat)) ∨ ∃ (x : Nat × Nat × Heap × Nat × List Int × Nat), some (z26a l) = some (z26a l) ∧ some (TV.v (.int .i64 (↑x_1.1 :
 Int))) = some (TV.v (.int .i64 (↑x.1 : Int))) ∧ some (TV.v (.vslice (some x_1.2.1) x_1.1 x_1.1 1 (List.map z26b (sortsA (List.take x_1.1 l))))) = some (TV.v (.vslice (some x.2.1) x.1 x.1 (1
 : Nat) (List.map z26b (sortsA (List.take x.1 l))))) ∧ some (TV.v (.vslice (some (Heap.next x_1.2.2)) 1 1 1 [IV.int .i64 n86])) = some (TV.v (.vslice (some x.2.2.2.2.2) (List.length (Prod.fst (Prod.snd
 x.2.2.2))) x.2.2.2.2.1.length 1 (List.map z26b x.2.2.2.2.1))) ∧ some z26f = some z26f ∧ some z26g = some (TV.v (.int .i64 (↑(Prod.fst (Prod.snd (Prod.snd (Prod.snd
 x)))) : Int))) ∧ Heap.push x_1.2.2 z26j = x.2.2.1 ∧ (x.1 < l.length ∧ SO l x.1 x.2.1 x.2.2.1 ∧ SI l x.1 x.2.2.2.1 (Prod.fst (Prod.snd (Prod.snd (Prod.snd
 x.2)))) ∧ SK x.2.2.2.2.1 x.2.1 x.2.2.2.2.2 x.2.2.1) ∧ (l.length - x.1) * 1000002 + kRest l x.1 (Prod.fst (Prod.snd (Prod.snd (Prod.snd
 x)))) < (l.length - x_1.1) * 1000002 + kRest l x_1.1 (0 : Nat))))))))) (needS (decide (0 ≤ (↑x_1.1 : Int)) && decide ((↑x_1.1 : Int) < (↑(z26m l) : Int))) (ldIS .i64 (z26h l) (Int.toNat (↑x_1.1 : Int) * 3) fun (n87 : Int)
 => ldIS .i64 (z26h l) (Int.toNat (↑x_1.1 : Int) * 3 + (1 : Nat)) fun n88 => ldVS 1 (z26h l) (Int.toNat (↑x_1.1 : Int) * 3 + (1 : Nat) + 1) fun (i89 : Option Nat) (e90 l91 : Nat) (c92 : List IV) => ∃ (l_1 : List Nd), ∃ (ks : List Int), ∃
 (k : List Int), (z26i l l_1) ∧ (l91 = ks.length ∧ c92 = List.map z26b ks) ∧ (z26l k) ∧ ((n87 ≠ 25 ∧ n87 ≠ 30 ∧ n87 ≠ 31) ∧ ks.length = k.length ∧ k.length ≤ 1000000000) ∧ tipS x_1.2.2 x_1.2.1 fun (m93 : Nat) => needS
 (Nat.beq m93 x_1.1 && Nat.ble ((x_1.1 + 1) * 8) (140737488355328 : Nat)) ((∃ (x_2 : Heap), some (z26a l) = some (z26a l) ∧ some (TV.v (.int .i64 (IntKind.wrap .i64 ((↑x_1.1 : Int) + 1)))) = some z26c ∧ some (TV.v (.vslice (some (Prod.fst
 x_1.2)) (x_1.1 + 1) (x_1.1 + 1) 1 (List.map z26b (sortsA (List.take x_1.1 l)) ++ [IV.int .i64 (nsort n87 n88 k)]))) = some z26e ∧ Heap.set x_1.2.2 x_1.2.1 (IObj.tip (x_1.1 + 1)) = x_2 ∧ True
 ∧ l.length < l.length - x.1) ∨ ∃ (x_2 : Nat × Nat × Heap), some (z26a l) = some (z26a l) ∧ some (TV.v (.int .i64 (IntKind.wrap .i64 ((↑x_1.1 : Int) + 1)))) = some (TV.v (.int .i64 (↑x_2.1 : Int))) ∧ some (TV.v (.vslice (some (Prod.fst
 x_1.2)) (x_1.1 + 1) (x_1.1 + 1) 1 (List.map z26b (sortsA (List.take x_1.1 l)) ++ [IV.int .i64 (nsort n87 n88 k)]))) = some (TV.v (.vslice (some x_2.2.1) x_2.1 x_2.1 1 (List.map z26b (sortsA (List.take
 x_2.1 l))))) ∧ Heap.set x_1.2.2 x_1.2.1 (IObj.tip (x_1.1 + 1)) = x_2.2.2 ∧ ((0 < x_2.1 ∧ x_2.1 ≤ l.length) ∧ Heap.get x_2.2.2 x_2.2.1 = IObj.tip x_2.1 ∧
 x_2.2.1 < Heap.next x_2.2.2) ∧ l.length - x_2.1 < l.length - x.1))))) ∧ ∀ (x_1 : Nat × Nat × Heap × Nat × List Int × Nat) (b : FF), x_1.1 < l.length ∧ SO l x_1.1 x_1.2.1 x_1.2.2.1
 ∧ SI l x_1.1 x_1.2.2.2.1 x_1.2.2.2.2.1 ∧ SK x_1.2.2.2.2.1 x_1.2.1 x_1.2.2.2.2.2 (Prod.fst (Prod.snd (Prod.snd
 x_1))) → (l.length - x_1.1) * 1000002 + kRest l x_1.1 x_1.2.2.2.1 ≤ M → needS (decide (0 ≤ (↑x_1.1 : Int)) && decide ((↑x_1.1 : Int) < (↑(z26m l) : Int))) (ldVS 1 (z26h l) (Int.toNat (↑x_1.1 :
 Int) * 3 + (2 : Nat)) fun (i94 : Option Nat) (e95 l96 : Nat) (c97 : List IV) => brS (decide ((↑x_1.2.2.2.1 : Int) < (↑l96 : Int))) (needS (decide (0 ≤ (↑x_1.1 : Int)) && decide ((↑x_1.1 : Int) < (↑(z26m l) : Int))) (ldVS 1
 (z26h l) (Int.toNat (↑x_1.1 : Int) * 3 + (2 : Nat)) fun (i98 : Option Nat) (e99 l100 : Nat) (c101 : List IV) => needS (decide (0 ≤ (↑x_1.2.2.2.1 : Int)) && decide ((↑x_1.2.2.2.1 : Int) < (↑l100 : Int))) (ldIS
 .i64 c101 (Int.toNat (↑x_1.2.2.2.1 : Int) * 1) fun n102 => brS (decide (n102 < 0)) (tipS x_1.2.2.1 x_1.2.1 fun (m103 : Nat) => needS (Nat.beq m103 x_1.1 && Nat.ble ((x_1.1 +
 (1 : Nat)) * 8) (140737488355328 : Nat)) ((∃ (x_2 : Heap), some (z26a l) = some (z26a l) ∧ some (TV.v (.int .i64 (IntKind.wrap .i64 ((↑x_1.1 : Int) + 1)))) = some z26c ∧ some (TV.v (.vslice (some x_1.2.1) (x_1.1 + 1) (Prod.fst
 x_1 + 1) 1 (List.map z26b (sortsA (List.take x_1.1 l)) ++ z26d))) = some z26e ∧ Heap.set x_1.2.2.1 x_1.2.1 (IObj.tip (x_1.1 + 1)) = x_2 ∧ True ∧ l.length < l.length - x.1) ∨ ∃ (x_2 : Nat × Nat × Heap),
 some (z26a l) = some (z26a l) ∧ some (TV.v (.int .i64 (IntKind.wrap .i64 ((↑x_1.1 : Int) + 1)))) = some (TV.v (.int .i64 (↑x_2.1 : Int))) ∧ some (TV.v (.vslice (some x_1.2.1) (x_1.1 + 1) (x_1.1 + 1) (1
 : Nat) (List.map z26b (sortsA (List.take x_1.1 l)) ++ z26d))) = some (TV.v (.vslice (some x_2.2.1) x_2.1 x_2.1 1 (List.map z26b (sortsA (List.take x_2.1 l))))) ∧ Heap.set x_1.2.2.1 x_1.2.1 (IObj.tip
 (x_1.1 + 1)) = x_2.2.2 ∧ ((0 < x_2.1 ∧ x_2.1 ≤ l.length) ∧ Heap.get x_2.2.2 x_2.2.1 = IObj.tip x_2.1 ∧ x_2.2.1 < Heap.next x_2.2.2) ∧ l.length - x_2.1 <
 l.length - x.1)) (brS (decide (n102 ≥ (↑x_1.1 : Int))) (tipS x_1.2.2.1 x_1.2.1 fun (m104 : Nat) => needS (Nat.beq m104 x_1.1 && Nat.ble ((x_1.1 + 1) * 8) (140737488355328 : Nat)) ((∃ (x_2 : Heap), some (z26a
 l) = some (z26a l) ∧ some (TV.v (.int .i64 (IntKind.wrap .i64 ((↑x_1.1 : Int) + 1)))) = some z26c ∧ some (TV.v (.vslice (some x_1.2.1) (x_1.1 + 1) (x_1.1 + 1) 1 (List.map z26b (sortsA (List.take x_1.1
 l)) ++ z26d))) = some z26e ∧ Heap.set x_1.2.2.1 x_1.2.1 (IObj.tip (x_1.1 + 1)) = x_2 ∧ True ∧ l.length < l.length - x.1) ∨ ∃ (x_2 : Nat × Nat × Heap), some (z26a l) = some (z26a l) ∧ some (TV.v (.int .i64 (IntKind.wrap
 .i64 ((↑x_1.1 : Int) + 1)))) = some (TV.v (.int .i64 (↑x_2.1 : Int))) ∧ some (TV.v (.vslice (some x_1.2.1) (x_1.1 + 1) (x_1.1 + 1) 1 (List.map z26b (sortsA (List.take x_1.1 l)) ++ z26d))) = some
 (TV.v (.vslice (some x_2.2.1) x_2.1 x_2.1 1 (List.map z26b (sortsA (List.take x_2.1 l))))) ∧ Heap.set x_1.2.2.1 x_1.2.1 (IObj.tip (x_1.1 + 1)) = x_2.2.2 ∧ ((0 < Prod.fst
 x_2 ∧ x_2.1 ≤ l.length) ∧ Heap.get x_2.2.2 x_2.2.1 = IObj.tip x_2.1 ∧ x_2.2.1 < Heap.next x_2.2.2) ∧ l.length - x_2.1 < l.length - x.1)) (needS (decide (0 ≤ n102) && decide (n102
 < (↑x_1.1 : Int))) (ldIS .i64 (List.map z26b (sortsA (List.take x_1.1 l))) (n102.toNat * 1) fun n105 => brS (n105 == 0) (tipS x_1.2.2.1 x_1.2.1 fun (m106 : Nat) => needS (Nat.beq m106 x_1.1 && Nat.ble
 ((x_1.1 + 1) * 8) (140737488355328 : Nat)) ((∃ (x_2 : Heap), some (z26a l) = some (z26a l) ∧ some (TV.v (.int .i64 (IntKind.wrap .i64 ((↑x_1.1 : Int) + 1)))) = some z26c ∧ some (TV.v (.vslice (some x_1.2.1) (x_1.1 + (1
 : Nat)) (x_1.1 + 1) 1 (List.map z26b (sortsA (List.take x_1.1 l)) ++ z26d))) = some z26e ∧ Heap.set x_1.2.2.1 x_1.2.1 (IObj.tip (x_1.1 + 1)) = x_2 ∧ True ∧ l.length < l.length - x.1) ∨ ∃ (x_2
 : Nat × Nat × Heap), some (z26a l) = some (z26a l) ∧ some (TV.v (.int .i64 (IntKind.wrap .i64 ((↑x_1.1 : Int) + 1)))) = some (TV.v (.int .i64 (↑x_2.1 : Int))) ∧ some (TV.v (.vslice (some x_1.2.1) (x_1.1 + 1) (Prod.fst
 x_1 + 1) 1 (List.map z26b (sortsA (List.take x_1.1 l)) ++ z26d))) = some (TV.v (.vslice (some x_2.2.1) x_2.1 x_2.1 1 (List.map z26b (sortsA (List.take x_2.1 l))))) ∧ Heap.set x_1.2.2.1 (Prod.fst
 x_1.2) (IObj.tip (x_1.1 + 1)) = x_2.2.2 ∧ ((0 < x_2.1 ∧ x_2.1 ≤ l.length) ∧ Heap.get x_2.2.2 x_2.2.1 = IObj.tip x_2.1 ∧ x_2.2.1 < Heap.next x_2.2.2) ∧ List.length
 l - x_2.1 < l.length - x.1)) (needS (decide (0 ≤ n102) && decide (n102 < (↑x_1.1 : Int))) (ldIS .i64 (List.map z26b (sortsA (List.take x_1.1 l))) (n102.toNat * 1) fun n107 => tipS x_1.2.2.1 (Prod.snd (Prod.snd
 x_1.2.2.2)) fun (m108 : Nat) => needS (Nat.beq m108 x_1.2.2.2.2.1.length && Nat.ble ((x_1.2.2.2.2.1.length + 1) * 8) (140737488355328 : Nat)) ((∃ (x : Heap),
 some (z26a l) = some (z26a l) ∧ some (TV.v (.int .i64 (↑x_1.1 : Int))) = some z26c ∧ some (TV.v (.vslice (some x_1.2.1) x_1.1 x_1.1 1 (List.map z26b (sortsA (List.take x_1.1 l))))) = some z26e ∧ some (TV.v (.vslice (some (Prod.snd
 x_1.2.2.2.2)) (x_1.2.2.2.2.1.length + 1) (x_1.2.2.2.2.1.length + 1) 1 (List.map z26b x_1.2.2.2.2.1
 ++ [IV.int .i64 n107]))) = some z26e ∧ some z26f = some z26f ∧ some (TV.v (.int .i64 (IntKind.wrap .i64 ((↑x_1.2.2.2.1 : Int) + 1)))) = some z26c ∧ Heap.set x_1.2.2.1 (Prod.snd (Prod.snd (Prod.snd (Prod.snd
 x_1.2)))) (IObj.tip (x_1.2.2.2.2.1.length + 1)) = x ∧ Nat.le (1 : Nat) (z26m l) ∧ l.length * 1000002 + kRest l (0 : Nat) 0 < (l.length - x_1.1) * 1000002 + kRest l x_1.1 (Prod.fst (Prod.snd
 x_1.2.2))) ∨ (∃ (x : Nat × Nat × Heap), some (z26a l) = some (z26a l) ∧ some (TV.v (.int .i64 (↑x_1.1 : Int))) = some (TV.v (.int .i64 (↑x.1 : Int))) ∧ some (TV.v (.vslice (some x_1.2.1) x_1.1 x_1.1 1
 (List.map z26b (sortsA (List.take x_1.1 l))))) = some (TV.v (.vslice (some x.2.1) x.1 x.1 1 (List.map z26b (sortsA (List.take x.1 l))))) ∧ some (TV.v (.vslice (some x_1.2.2.2.2.2) (List.length
 x_1.2.2.2.2.1 + 1) (x_1.2.2.2.2.1.length + 1) 1 (List.map z26b x_1.2.2.2.2.1 ++ [IV.int .i64 n107]))) = some z26e ∧ some z26f = some
 z26f ∧ some (TV.v (.int .i64 (IntKind.wrap .i64 ((↑x_1.2.2.2.1 : Int) + 1)))) = some z26c ∧ Heap.set x_1.2.2.1 x_1.2.2.2.2.2 (IObj.tip (List.length (Prod.fst (Prod.snd (Prod.snd
 x_1.2.2))) + 1)) = x.2.2 ∧ (x.1 < l.length ∧ SO l x.1 x.2.1 x.2.2) ∧ (l.length - x.1) * 1000002 + kRest l x.1 0 < (l.length - x_1.1) * 1000002 +
 kRest l x_1.1 x_1.2.2.2.1) ∨ ∃ (x : Nat × Nat × Heap × Nat × List Int × Nat), some (z26a l) = some (z26a l) ∧ some (TV.v (.int .i64 (↑x_1.1 : Int))) = some (TV.v (.int .i64 (↑x.1 : Int))) ∧ some (TV.v (.vslice (some (Prod.fst
 x_1.2)) x_1.1 x_1.1 1 (List.map z26b (sortsA (List.take x_1.1 l))))) = some (TV.v (.vslice (some x.2.1) x.1 x.1 1 (List.map z26b (sortsA (List.take x.1 l))))) ∧ some (TV.v (.vslice (some (Prod.snd (Prod.snd
 x_1.2.2.2))) (x_1.2.2.2.2.1.length + 1) (x_1.2.2.2.2.1.length + 1) 1 (List.map z26b x_1.2.2.2.2.1 ++ [IV.int
 .i64 n107]))) = some (TV.v (.vslice (some x.2.2.2.2.2) x.2.2.2.2.1.length x.2.2.2.2.1.length 1 (List.map z26b (Prod.fst (Prod.snd (Prod.snd
 x.2.2)))))) ∧ some z26f = some z26f ∧ some (TV.v (.int .i64 (IntKind.wrap .i64 ((↑x_1.2.2.2.1 : Int) + 1)))) = some (TV.v (.int .i64 (↑x.2.2.2.1 : Int))) ∧ Heap.set (Prod.fst (Prod.snd
 x_1.2)) x_1.2.2.2.2.2 (IObj.tip (x_1.2.2.2.2.1.length + 1)) = x.2.2.1 ∧ (x.1 < l.length ∧ SO l x.1 x.2.1 (Prod.fst (Prod.snd
 x.2)) ∧ SI l x.1 x.2.2.2.1 x.2.2.2.2.1 ∧ SK x.2.2.2.2.1 x.2.1 x.2.2.2.2.2 (Prod.fst (Prod.snd
 x.2))) ∧ (l.length - x.1) * 1000002 + kRest l x.1 x.2.2.2.1 < (l.length - x_1.1) * 1000002 + kRest l x_1.1 x_1.2.2.2.1))))))))) (needS (decide (0 ≤ (↑(Prod.fst
 x_1) : Int)) && decide ((↑x_1.1 : Int) < (↑(z26m l) : Int))) (ldIS .i64 (z26h l) (Int.toNat (↑x_1.1 : Int) * 3) fun n109 => ldIS .i64 (z26h l) (Int.toNat (↑x_1.1 : Int) * 3 + (1 : Nat)) fun n110 => ldVS 1 (z26h l) (Int.toNat
 (↑x_1.1 : Int) * 3 + (1 : Nat) + 1) fun (i111 : Option Nat) (e112 l113 : Nat) (c114 : List IV) => ∃ (l_1 : List Nd), ∃ (ks k : List Int), (z26i l l_1) ∧ (l113 = ks.length ∧ c114 = List.map z26b ks) ∧ (List.length (Prod.fst (Prod.snd (Prod.snd (Prod.snd (Prod.snd
 x_1))))) = k.length ∧ List.map z26b x_1.2.2.2.2.1 = List.map z26b k) ∧ ((n109 ≠ 25 ∧ n109 ≠ 30 ∧ n109 ≠ 31) ∧ ks.length = k.length ∧ k.length ≤ 1000000000) ∧ tipS x_1.2.2.1 (Prod.fst
 x_1.2) fun (m115 : Nat) => needS (Nat.beq m115 x_1.1 && Nat.ble ((x_1.1 + 1) * 8) (140737488355328 : Nat)) ((∃ (x_2 : Heap), some (z26a l) = some (z26a l) ∧ some (TV.v (.int .i64 (IntKind.wrap .i64 ((↑x_1.1 : Int) + 1)))) = some
 z26c ∧ some (TV.v (.vslice (some x_1.2.1) (x_1.1 + 1) (x_1.1 + 1) 1 (List.map z26b (sortsA (List.take x_1.1 l)) ++ [IV.int .i64 (nsort n109 n110 k)]))) = some z26e ∧ Heap.set x_1.2.2.1 (Prod.fst (Prod.snd
 x_1)) (IObj.tip (x_1.1 + 1)) = x_2 ∧ True ∧ l.length < l.length - x.1) ∨ ∃ (x_2 : Nat × Nat × Heap), some (z26a l) = some (z26a l) ∧ some (TV.v (.int .i64 (IntKind.wrap .i64 ((↑x_1.1 : Int) + 1)))) = some (TV.v (.int .i64 (↑(Prod.fst
 x_2) : Int))) ∧ some (TV.v (.vslice (some x_1.2.1) (x_1.1 + 1) (x_1.1 + 1) 1 (List.map z26b (sortsA (List.take x_1.1 l)) ++ [IV.int .i64 (nsort n109 n110 k)]))) = some (TV.v (.vslice (some x_2.2.1) (Prod.fst
 x_2) x_2.1 1 (List.map z26b (sortsA (List.take x_2.1 l))))) ∧ Heap.set x_1.2.2.1 x_1.2.1 (IObj.tip (x_1.1 + 1)) = x_2.2.2 ∧ ((0 < x_2.1 ∧ x_2.1 ≤ l.length) ∧ Heap.get (Prod.snd
 x_2.2) x_2.2.1 = IObj.tip x_2.1 ∧ x_2.2.1 < Heap.next x_2.2.2) ∧ l.length - x_2.1 < l.length - x.1))))) (needS (pureL [IV.vslice none 0 x.1 1 (List.map z26b (sortsA (List.take (Prod.fst
 x) l)))]) (Q (.vslice none 0 x.1 1 (List.map z26b (sortsA (List.take x.1 l)))) h)))) := by kernel_rfl
set_option maxHeartbeats 2000000 in
theorem sSorts : ∀ xs h Q, kSorts xs h Q → CallW env 26 xs h Q := by
  intro xs h Q hk
  unfold kSorts at hk
  split at hk
  · rename_i e1 n1 c1
    obtain ⟨l, ⟨rfl, rfl⟩, hb, hk⟩ := hk
    refine dF_run (okNSort) (vSorts l e1 h Q) ?_
    delta z26a z26b z26c z26d z26e z26f z26g z26h z26i z26j z26k z26l z26m
    have tn : ∀ x : Nat, (x : Int).toNat = x := Int.toNat_natCast
    obtain ⟨hb1, hbl⟩ := hb
    have hel : ∀ {i : Nat} (h : i < l.length), l[i].ks.length ≤ 1000000 := fun h => (hb1 _ (List.getElem_mem h)).1
    have hkr : ∀ i, kRest l i 0 ≤ 1000000 := fun i => by
      rcases Nat.lt_or_ge i l.length with q | q
      · rw [kRest_at q]
        have := hel q
        omega
      · unfold kRest
        rw [List.getElem?_eq_none q]
        exact Nat.zero_le _
    refine needS_intro (by simp only [pureL, pureB, pureL_cN, Bool.and_true]) ⟨.inl ⟨Heap.empty, (by first | rfl | exact True.intro), (by first | rfl | exact True.intro), (by first | rfl | exact True.intro), (by first | rfl | exact True.intro), trivial, trivial⟩, ?_, ?_⟩
    · rintro g _ _
      refine brS_intro (fun c => ?_) (fun c => ?_)
      · rw [decide_eq_true_eq] at c
        have hlt0 : 0 < l.length := by omega
        refine ⟨l.length * 1000002 + kRest l 0 0, .inl ⟨g, (by first | rfl | exact True.intro), (by first | rfl | exact True.intro), (by first | rfl | exact True.intro), (by first | rfl | exact True.intro), (by first | rfl | exact True.intro), (by first | rfl | exact True.intro), (by first | rfl | exact True.intro), hlt0, Nat.le_refl _⟩, ?_, ?_, ?_⟩
        · rintro g _ hlt hM
          refine needS_intro (by simp; omega) (ldNk hlt rfl (brS_intro (fun c1 => ?_) (fun c1 => ?_)))
          · rw [decide_eq_true_eq] at c1
            have hj : 0 < l[0].ks.length := by omega
            have hm : l[0].ks[0] ∈ l[0].ks := List.getElem_mem hj
            refine needS_intro (by simp; omega) (ldNk hlt rfl (needS_intro (by simp; omega) (ldI1 hj rfl (brS_intro (fun c2 => ?_) (fun c2 => brS_intro (fun c3 => ?_) (fun c3 => ?_))))))
            · rw [decide_eq_true_eq] at c2
              exact (.inr ⟨(1, g.next, g.push (.tip 1)), (by first | rfl | exact True.intro), (by first | rfl | exact True.intro), (by rw [sortsA_step hlt, sstep_bad hm (kidOk_neg c2)]; rfl), (by first | rfl | exact True.intro), ⟨⟨Nat.one_pos, hlt⟩, get_push_eq, Nat.lt_succ_self _⟩, by dsimp only; omega⟩)
            · rw [decide_eq_true_eq] at c3
              exact (.inr ⟨(1, g.next, g.push (.tip 1)), (by first | rfl | exact True.intro), (by first | rfl | exact True.intro), (by rw [sortsA_step hlt, sstep_bad hm (kidOk_big (by show (0 : Int) ≤ _; omega))]; rfl), (by first | rfl | exact True.intro), ⟨⟨Nat.one_pos, hlt⟩, get_push_eq, Nat.lt_succ_self _⟩, by dsimp only; omega⟩)
            · rw [decide_eq_false_iff_not] at c2 c3
              omega
          · rw [decide_eq_false_iff_not] at c1
            have hl := (SI.zero hlt).last hlt (by omega)
            refine needS_intro (by simp; omega) (ldNd (i := 0) (o := 0) hlt rfl ⟨l, l[0].ks, [], ⟨rfl, rfl⟩, ⟨rfl, rfl⟩, ⟨rfl, rfl⟩, ⟨(hb1 _ (List.getElem_mem hlt)).2, hl.2.symm, by simp⟩, ?_⟩)
            exact (.inr ⟨(1, g.next, g.push (.tip 1)), (by first | rfl | exact True.intro), (by first | rfl | exact True.intro), (by rw [sortsA_step hlt, show sstep (sortsA (l.take 0)) l[0] = nsort l[0].op l[0].im [] from hl.1]; rfl), (by first | rfl | exact True.intro), ⟨⟨Nat.one_pos, hlt⟩, get_push_eq, Nat.lt_succ_self _⟩, by dsimp only; omega⟩)
        · rintro ⟨i, id, g⟩ _ ⟨hi, ⟨⟨hi0, hi1⟩, hg, hid⟩⟩ hM
          dsimp only at hi hi0 hi1 hg hid hM ⊢
          have hol : (sortsA (l.take i)).length = i := by rw [sortsA_len, List.length_take]; omega
          have hkl := hel hi
          simp only [kRest_at hi] at hM
          refine needS_intro (by simp; omega) (ldNk hi (by rw [tn]) (brS_intro (fun c1 => ?_) (fun c1 => ?_)))
          · rw [decide_eq_true_eq] at c1
            have hj : 0 < l[i].ks.length := by omega
            have hm : l[i].ks[0] ∈ l[i].ks := List.getElem_mem hj
            refine needS_intro (by simp; omega) (ldNk hi (by rw [tn]) (needS_intro (by simp; omega) (ldI1 hj rfl (brS_intro (fun c2 => ?_) (fun c2 => brS_intro (fun c3 => ?_) (fun c3 => ?_))))))
            · rw [decide_eq_true_eq] at c2
              exact tip_intro hg (needS_intro (by simp only [Nat.mul_one, Bool.and_eq_true, nbeq_t, Nat.ble_eq, true_and]; omega) (.inr ⟨(i + 1, id, g.set id (.tip (i + 1))), (by first | rfl | exact True.intro), (by rw [IntWalk.i64_in _ (by omega)]; rfl), (by rw [sortsA_step hi, sstep_bad hm (kidOk_neg c2)]; simp), (by first | rfl | exact True.intro), ⟨⟨Nat.succ_pos _, hi⟩, get_set_eq, hid⟩, by dsimp only; omega⟩))
            · rw [decide_eq_true_eq] at c3
              exact tip_intro hg (needS_intro (by simp only [Nat.mul_one, Bool.and_eq_true, nbeq_t, Nat.ble_eq, true_and]; omega) (.inr ⟨(i + 1, id, g.set id (.tip (i + 1))), (by first | rfl | exact True.intro), (by rw [IntWalk.i64_in _ (by omega)]; rfl), (by rw [sortsA_step hi, sstep_bad hm (kidOk_big (by omega))]; simp), (by first | rfl | exact True.intro), ⟨⟨Nat.succ_pos _, hi⟩, get_set_eq, hid⟩, by dsimp only; omega⟩))
            rw [decide_eq_false_iff_not] at c2 c3
            have hq : (l[i].ks[0]).toNat < (sortsA (l.take i)).length := by omega
            refine needS_intro (by simp; omega) (ldI1 hq (Nat.mul_one _) (brS_intro (fun c4 => ?_) (fun c4 => ?_)))
            · rw [beq_iff_eq] at c4
              exact tip_intro hg (needS_intro (by simp only [Nat.mul_one, Bool.and_eq_true, nbeq_t, Nat.ble_eq, true_and]; omega) (.inr ⟨(i + 1, id, g.set id (.tip (i + 1))), (by first | rfl | exact True.intro), (by rw [IntWalk.i64_in _ (by omega)]; rfl), (by rw [sortsA_step hi, sstep_bad hm (kidOk_zero hq c4)]; simp), (by first | rfl | exact True.intro), ⟨⟨Nat.succ_pos _, hi⟩, get_set_eq, hid⟩, by dsimp only; omega⟩))
            rw [beq_eq_false_iff_ne] at c4
            obtain ⟨k1, k2⟩ := kidOk_intro (by omega) hq c4
            have hs := (SI.zero hi).step hi hj k1
            rw [k2] at hs
            refine needS_intro (by simp; omega) (ldI1 hq (Nat.mul_one _) (.inr (.inr ⟨(i, id, g.push (.tip 1), 1, [(sortsA (l.take i))[(l[i].ks[0]).toNat]], g.next), (by first | rfl | exact True.intro), (by first | rfl | exact True.intro), (by first | rfl | exact True.intro), (by first | rfl | exact True.intro), (by first | rfl | exact True.intro), (by first | rfl | exact True.intro), (by first | rfl | exact True.intro), ⟨hi, ⟨⟨hi0, hi1⟩, by rw [get_push_lt hid]; exact hg, Nat.lt_succ_of_lt hid⟩, hs, ⟨Nat.one_pos, get_push_eq, Nat.lt_succ_self _, by dsimp only; omega⟩⟩, ?_⟩)))
            dsimp only
            rw [kRest_at hi, kRest_at hi]
            omega
          · rw [decide_eq_false_iff_not] at c1
            have hl := (SI.zero hi).last hi (by omega)
            refine needS_intro (by simp; omega) (ldNd hi (by rw [tn]) ⟨l, l[i].ks, [], ⟨rfl, rfl⟩, ⟨rfl, rfl⟩, ⟨rfl, rfl⟩, ⟨(hb1 _ (List.getElem_mem hi)).2, hl.2.symm, by simp⟩, ?_⟩)
            exact tip_intro hg (needS_intro (by simp only [Nat.mul_one, Bool.and_eq_true, nbeq_t, Nat.ble_eq, true_and]; omega) (.inr ⟨(i + 1, id, g.set id (.tip (i + 1))), (by first | rfl | exact True.intro), (by rw [IntWalk.i64_in _ (by omega)]; rfl), (by rw [sortsA_step hi, hl.1]; simp), (by first | rfl | exact True.intro), ⟨⟨Nat.succ_pos _, hi⟩, get_set_eq, hid⟩, by dsimp only; omega⟩))
        · rintro ⟨i, id, g, j, k, idK⟩ _ ⟨hi, ⟨⟨hi0, hi1⟩, hg, hid⟩, hsi, ⟨hk0, hkg, hkid, hkne⟩⟩ hM
          dsimp only at hi hi0 hi1 hg hid hsi hk0 hkg hkid hkne hM ⊢
          have hol : (sortsA (l.take i)).length = i := by rw [sortsA_len, List.length_take]; omega
          have hkl := hel hi
          have hkj : k.length = j := by obtain ⟨n, _, h2, _⟩ := hsi; exact h2.2
          simp only [kRest_at hi] at hM
          refine needS_intro (by simp; omega) (ldNk hi (by rw [tn]) (brS_intro (fun c1 => ?_) (fun c1 => ?_)))
          · rw [decide_eq_true_eq] at c1
            have hj : j < l[i].ks.length := by omega
            have hm : l[i].ks[j] ∈ l[i].ks := List.getElem_mem hj
            refine needS_intro (by simp; omega) (ldNk hi (by rw [tn]) (needS_intro (by simp; omega) (ldI1 hj (by rw [Nat.mul_one, tn]) (brS_intro (fun c2 => ?_) (fun c2 => brS_intro (fun c3 => ?_) (fun c3 => ?_))))))
            · rw [decide_eq_true_eq] at c2
              exact tip_intro hg (needS_intro (by simp only [Nat.mul_one, Bool.and_eq_true, nbeq_t, Nat.ble_eq, true_and]; omega) (.inr ⟨(i + 1, id, g.set id (.tip (i + 1))), (by first | rfl | exact True.intro), (by rw [IntWalk.i64_in _ (by omega)]; rfl), (by rw [sortsA_step hi, sstep_bad hm (kidOk_neg c2)]; simp), (by first | rfl | exact True.intro), ⟨⟨Nat.succ_pos _, hi⟩, get_set_eq, hid⟩, by dsimp only; omega⟩))
            · rw [decide_eq_true_eq] at c3
              exact tip_intro hg (needS_intro (by simp only [Nat.mul_one, Bool.and_eq_true, nbeq_t, Nat.ble_eq, true_and]; omega) (.inr ⟨(i + 1, id, g.set id (.tip (i + 1))), (by first | rfl | exact True.intro), (by rw [IntWalk.i64_in _ (by omega)]; rfl), (by rw [sortsA_step hi, sstep_bad hm (kidOk_big (by omega))]; simp), (by first | rfl | exact True.intro), ⟨⟨Nat.succ_pos _, hi⟩, get_set_eq, hid⟩, by dsimp only; omega⟩))
            rw [decide_eq_false_iff_not] at c2 c3
            have hq : (l[i].ks[j]).toNat < (sortsA (l.take i)).length := by omega
            refine needS_intro (by simp; omega) (ldI1 hq (Nat.mul_one _) (brS_intro (fun c4 => ?_) (fun c4 => ?_)))
            · rw [beq_iff_eq] at c4
              exact tip_intro hg (needS_intro (by simp only [Nat.mul_one, Bool.and_eq_true, nbeq_t, Nat.ble_eq, true_and]; omega) (.inr ⟨(i + 1, id, g.set id (.tip (i + 1))), (by first | rfl | exact True.intro), (by rw [IntWalk.i64_in _ (by omega)]; rfl), (by rw [sortsA_step hi, sstep_bad hm (kidOk_zero hq c4)]; simp), (by first | rfl | exact True.intro), ⟨⟨Nat.succ_pos _, hi⟩, get_set_eq, hid⟩, by dsimp only; omega⟩))
            rw [beq_eq_false_iff_ne] at c4
            obtain ⟨k1, k2⟩ := kidOk_intro (by omega) hq c4
            have hs := hsi.step hi hj k1
            rw [k2] at hs
            refine needS_intro (by simp; omega) (ldI1 hq (Nat.mul_one _) (tip_intro hkg (needS_intro (by simp only [Nat.mul_one, Bool.and_eq_true, nbeq_t, Nat.ble_eq, true_and]; omega) (.inr (.inr ⟨(i, id, g.set idK (.tip (k.length + 1)), j + 1, k ++ [(sortsA (l.take i))[(l[i].ks[j]).toNat]], idK), (by first | rfl | exact True.intro), (by first | rfl | exact True.intro), (by first | rfl | exact True.intro), ?_, (by first | rfl | exact True.intro), ?_, (by first | rfl | exact True.intro), ⟨hi, ⟨⟨hi0, hi1⟩, by rw [get_set_ne hkne.symm]; exact hg, hid⟩, hs, ⟨by simp, by rw [get_set_eq]; simp, hkid, hkne⟩⟩, ?_⟩)))))
            · simp
            · rw [IntWalk.i64_in _ (by omega)]; rfl
            · dsimp only
              rw [kRest_at hi, kRest_at hi]
              omega
          · rw [decide_eq_false_iff_not] at c1
            have hl := hsi.last hi (by omega)
            refine needS_intro (by simp; omega) (ldNd hi (by rw [tn]) ⟨l, l[i].ks, k, ⟨rfl, rfl⟩, ⟨rfl, rfl⟩, ⟨rfl, rfl⟩, ⟨(hb1 _ (List.getElem_mem hi)).2, hl.2.symm, by omega⟩, ?_⟩)
            exact tip_intro hg (needS_intro (by simp only [Nat.mul_one, Bool.and_eq_true, nbeq_t, Nat.ble_eq, true_and]; omega) (.inr ⟨(i + 1, id, g.set id (.tip (i + 1))), (by first | rfl | exact True.intro), (by rw [IntWalk.i64_in _ (by omega)]; rfl), (by rw [sortsA_step hi, hl.1]; simp), (by first | rfl | exact True.intro), ⟨⟨Nat.succ_pos _, hi⟩, get_set_eq, hid⟩, by dsimp only; omega⟩))
      · rw [decide_eq_false_iff_not] at c
        have : l = [] := List.eq_nil_of_length_eq_zero (by omega)
        subst this
        exact hk
    · rintro ⟨i0, id0, g0⟩ _ ⟨⟨hp0, hp1⟩, hpg, hpid⟩
      dsimp only at hp0 hp1 hpg hpid ⊢
      have hkr0 := hkr i0
      refine brS_intro (fun c => ?_) (fun c => ?_)
      · rw [decide_eq_true_eq] at c
        have hlt0 : i0 < l.length := by omega
        refine ⟨(l.length - i0) * 1000002 + kRest l i0 0, .inr (.inl ⟨(i0, id0, g0), (by first | rfl | exact True.intro), (by first | rfl | exact True.intro), (by first | rfl | exact True.intro), (by first | rfl | exact True.intro), (by first | rfl | exact True.intro), (by first | rfl | exact True.intro), (by first | rfl | exact True.intro), ⟨hlt0, ⟨⟨hp0, hp1⟩, hpg, hpid⟩⟩, Nat.le_refl _⟩), ?_, ?_, ?_⟩
        · rintro g _ hlt hM
          exfalso
          omega
        · rintro ⟨i, id, g⟩ _ ⟨hi, ⟨⟨hi0, hi1⟩, hg, hid⟩⟩ hM
          dsimp only at hi hi0 hi1 hg hid hM ⊢
          have hol : (sortsA (l.take i)).length = i := by rw [sortsA_len, List.length_take]; omega
          have hkl := hel hi
          simp only [kRest_at hi] at hM
          refine needS_intro (by simp; omega) (ldNk hi (by rw [tn]) (brS_intro (fun c1 => ?_) (fun c1 => ?_)))
          · rw [decide_eq_true_eq] at c1
            have hj : 0 < l[i].ks.length := by omega
            have hm : l[i].ks[0] ∈ l[i].ks := List.getElem_mem hj
            refine needS_intro (by simp; omega) (ldNk hi (by rw [tn]) (needS_intro (by simp; omega) (ldI1 hj rfl (brS_intro (fun c2 => ?_) (fun c2 => brS_intro (fun c3 => ?_) (fun c3 => ?_))))))
            · rw [decide_eq_true_eq] at c2
              exact tip_intro hg (needS_intro (by simp only [Nat.mul_one, Bool.and_eq_true, nbeq_t, Nat.ble_eq, true_and]; omega) (.inr ⟨(i + 1, id, g.set id (.tip (i + 1))), (by first | rfl | exact True.intro), (by rw [IntWalk.i64_in _ (by omega)]; rfl), (by rw [sortsA_step hi, sstep_bad hm (kidOk_neg c2)]; simp), (by first | rfl | exact True.intro), ⟨⟨Nat.succ_pos _, hi⟩, get_set_eq, hid⟩, by dsimp only; omega⟩))
            · rw [decide_eq_true_eq] at c3
              exact tip_intro hg (needS_intro (by simp only [Nat.mul_one, Bool.and_eq_true, nbeq_t, Nat.ble_eq, true_and]; omega) (.inr ⟨(i + 1, id, g.set id (.tip (i + 1))), (by first | rfl | exact True.intro), (by rw [IntWalk.i64_in _ (by omega)]; rfl), (by rw [sortsA_step hi, sstep_bad hm (kidOk_big (by omega))]; simp), (by first | rfl | exact True.intro), ⟨⟨Nat.succ_pos _, hi⟩, get_set_eq, hid⟩, by dsimp only; omega⟩))
            rw [decide_eq_false_iff_not] at c2 c3
            have hq : (l[i].ks[0]).toNat < (sortsA (l.take i)).length := by omega
            refine needS_intro (by simp; omega) (ldI1 hq (Nat.mul_one _) (brS_intro (fun c4 => ?_) (fun c4 => ?_)))
            · rw [beq_iff_eq] at c4
              exact tip_intro hg (needS_intro (by simp only [Nat.mul_one, Bool.and_eq_true, nbeq_t, Nat.ble_eq, true_and]; omega) (.inr ⟨(i + 1, id, g.set id (.tip (i + 1))), (by first | rfl | exact True.intro), (by rw [IntWalk.i64_in _ (by omega)]; rfl), (by rw [sortsA_step hi, sstep_bad hm (kidOk_zero hq c4)]; simp), (by first | rfl | exact True.intro), ⟨⟨Nat.succ_pos _, hi⟩, get_set_eq, hid⟩, by dsimp only; omega⟩))
            rw [beq_eq_false_iff_ne] at c4
            obtain ⟨k1, k2⟩ := kidOk_intro (by omega) hq c4
            have hs := (SI.zero hi).step hi hj k1
            rw [k2] at hs
            refine needS_intro (by simp; omega) (ldI1 hq (Nat.mul_one _) (.inr (.inr ⟨(i, id, g.push (.tip 1), 1, [(sortsA (l.take i))[(l[i].ks[0]).toNat]], g.next), (by first | rfl | exact True.intro), (by first | rfl | exact True.intro), (by first | rfl | exact True.intro), (by first | rfl | exact True.intro), (by first | rfl | exact True.intro), (by first | rfl | exact True.intro), (by first | rfl | exact True.intro), ⟨hi, ⟨⟨hi0, hi1⟩, by rw [get_push_lt hid]; exact hg, Nat.lt_succ_of_lt hid⟩, hs, ⟨Nat.one_pos, get_push_eq, Nat.lt_succ_self _, by dsimp only; omega⟩⟩, ?_⟩)))
            dsimp only
            rw [kRest_at hi, kRest_at hi]
            omega
          · rw [decide_eq_false_iff_not] at c1
            have hl := (SI.zero hi).last hi (by omega)
            refine needS_intro (by simp; omega) (ldNd hi (by rw [tn]) ⟨l, l[i].ks, [], ⟨rfl, rfl⟩, ⟨rfl, rfl⟩, ⟨rfl, rfl⟩, ⟨(hb1 _ (List.getElem_mem hi)).2, hl.2.symm, by simp⟩, ?_⟩)
            exact tip_intro hg (needS_intro (by simp only [Nat.mul_one, Bool.and_eq_true, nbeq_t, Nat.ble_eq, true_and]; omega) (.inr ⟨(i + 1, id, g.set id (.tip (i + 1))), (by first | rfl | exact True.intro), (by rw [IntWalk.i64_in _ (by omega)]; rfl), (by rw [sortsA_step hi, hl.1]; simp), (by first | rfl | exact True.intro), ⟨⟨Nat.succ_pos _, hi⟩, get_set_eq, hid⟩, by dsimp only; omega⟩))
        · rintro ⟨i, id, g, j, k, idK⟩ _ ⟨hi, ⟨⟨hi0, hi1⟩, hg, hid⟩, hsi, ⟨hk0, hkg, hkid, hkne⟩⟩ hM
          dsimp only at hi hi0 hi1 hg hid hsi hk0 hkg hkid hkne hM ⊢
          have hol : (sortsA (l.take i)).length = i := by rw [sortsA_len, List.length_take]; omega
          have hkl := hel hi
          have hkj : k.length = j := by obtain ⟨n, _, h2, _⟩ := hsi; exact h2.2
          simp only [kRest_at hi] at hM
          refine needS_intro (by simp; omega) (ldNk hi (by rw [tn]) (brS_intro (fun c1 => ?_) (fun c1 => ?_)))
          · rw [decide_eq_true_eq] at c1
            have hj : j < l[i].ks.length := by omega
            have hm : l[i].ks[j] ∈ l[i].ks := List.getElem_mem hj
            refine needS_intro (by simp; omega) (ldNk hi (by rw [tn]) (needS_intro (by simp; omega) (ldI1 hj (by rw [Nat.mul_one, tn]) (brS_intro (fun c2 => ?_) (fun c2 => brS_intro (fun c3 => ?_) (fun c3 => ?_))))))
            · rw [decide_eq_true_eq] at c2
              exact tip_intro hg (needS_intro (by simp only [Nat.mul_one, Bool.and_eq_true, nbeq_t, Nat.ble_eq, true_and]; omega) (.inr ⟨(i + 1, id, g.set id (.tip (i + 1))), (by first | rfl | exact True.intro), (by rw [IntWalk.i64_in _ (by omega)]; rfl), (by rw [sortsA_step hi, sstep_bad hm (kidOk_neg c2)]; simp), (by first | rfl | exact True.intro), ⟨⟨Nat.succ_pos _, hi⟩, get_set_eq, hid⟩, by dsimp only; omega⟩))
            · rw [decide_eq_true_eq] at c3
              exact tip_intro hg (needS_intro (by simp only [Nat.mul_one, Bool.and_eq_true, nbeq_t, Nat.ble_eq, true_and]; omega) (.inr ⟨(i + 1, id, g.set id (.tip (i + 1))), (by first | rfl | exact True.intro), (by rw [IntWalk.i64_in _ (by omega)]; rfl), (by rw [sortsA_step hi, sstep_bad hm (kidOk_big (by omega))]; simp), (by first | rfl | exact True.intro), ⟨⟨Nat.succ_pos _, hi⟩, get_set_eq, hid⟩, by dsimp only; omega⟩))
            rw [decide_eq_false_iff_not] at c2 c3
            have hq : (l[i].ks[j]).toNat < (sortsA (l.take i)).length := by omega
            refine needS_intro (by simp; omega) (ldI1 hq (Nat.mul_one _) (brS_intro (fun c4 => ?_) (fun c4 => ?_)))
            · rw [beq_iff_eq] at c4
              exact tip_intro hg (needS_intro (by simp only [Nat.mul_one, Bool.and_eq_true, nbeq_t, Nat.ble_eq, true_and]; omega) (.inr ⟨(i + 1, id, g.set id (.tip (i + 1))), (by first | rfl | exact True.intro), (by rw [IntWalk.i64_in _ (by omega)]; rfl), (by rw [sortsA_step hi, sstep_bad hm (kidOk_zero hq c4)]; simp), (by first | rfl | exact True.intro), ⟨⟨Nat.succ_pos _, hi⟩, get_set_eq, hid⟩, by dsimp only; omega⟩))
            rw [beq_eq_false_iff_ne] at c4
            obtain ⟨k1, k2⟩ := kidOk_intro (by omega) hq c4
            have hs := hsi.step hi hj k1
            rw [k2] at hs
            refine needS_intro (by simp; omega) (ldI1 hq (Nat.mul_one _) (tip_intro hkg (needS_intro (by simp only [Nat.mul_one, Bool.and_eq_true, nbeq_t, Nat.ble_eq, true_and]; omega) (.inr (.inr ⟨(i, id, g.set idK (.tip (k.length + 1)), j + 1, k ++ [(sortsA (l.take i))[(l[i].ks[j]).toNat]], idK), (by first | rfl | exact True.intro), (by first | rfl | exact True.intro), (by first | rfl | exact True.intro), ?_, (by first | rfl | exact True.intro), ?_, (by first | rfl | exact True.intro), ⟨hi, ⟨⟨hi0, hi1⟩, by rw [get_set_ne hkne.symm]; exact hg, hid⟩, hs, ⟨by simp, by rw [get_set_eq]; simp, hkid, hkne⟩⟩, ?_⟩)))))
            · simp
            · rw [IntWalk.i64_in _ (by omega)]; rfl
            · dsimp only
              rw [kRest_at hi, kRest_at hi]
              omega
          · rw [decide_eq_false_iff_not] at c1
            have hl := hsi.last hi (by omega)
            refine needS_intro (by simp; omega) (ldNd hi (by rw [tn]) ⟨l, l[i].ks, k, ⟨rfl, rfl⟩, ⟨rfl, rfl⟩, ⟨rfl, rfl⟩, ⟨(hb1 _ (List.getElem_mem hi)).2, hl.2.symm, by omega⟩, ?_⟩)
            exact tip_intro hg (needS_intro (by simp only [Nat.mul_one, Bool.and_eq_true, nbeq_t, Nat.ble_eq, true_and]; omega) (.inr ⟨(i + 1, id, g.set id (.tip (i + 1))), (by first | rfl | exact True.intro), (by rw [IntWalk.i64_in _ (by omega)]; rfl), (by rw [sortsA_step hi, hl.1]; simp), (by first | rfl | exact True.intro), ⟨⟨Nat.succ_pos _, hi⟩, get_set_eq, hid⟩, by dsimp only; omega⟩))
      · rw [decide_eq_false_iff_not] at c
        obtain rfl : i0 = l.length := by omega
        rw [List.take_length]
        exact needS_intro (by simp only [pureL, pureB, pureL_ints, Bool.and_true]) (q_eq hk (by rw [sortsA_len]))
  · exact hk.elim
def cSorts := addC 26 kSorts cNSort
theorem okSorts : Sound env cSorts := sound_add sSorts (okNSort)

noncomputable def cNdSort := cSorts
theorem okNdSort : Sound env cNdSort := okSorts
def ofInv (l : List Nd) (s n : Int) : Inv' := .or
  (atX Nat (fun x => [(0, .v (.vslice none 0 (l).length 3 ((l).flatMap cN))), (1, .v (.int .i64 s)), (2, .v (.int .i64 n)), (7, .v (.vslice none 0 (sortsA l).length 1 ((sortsA l).map (IV.int .i64)))), (8, .v .nilslice), (9, .v (.int .i64 x))]) (fun _ => []) (fun _ => Heap.empty) (fun x => x ≤ l.length ∧ s ∈ (sortsA l).drop x) (fun x => l.length - x))
  (atX (Nat × List Int × Nat × Heap) (fun x => [(0, .v (.vslice none 0 (l).length 3 ((l).flatMap cN))), (1, .v (.int .i64 s)), (2, .v (.int .i64 n)), (7, .v (.vslice none 0 (sortsA l).length 1 ((sortsA l).map (IV.int .i64)))), (8, .v (.vslice (some x.2.2.1) x.2.1.length x.2.1.length 1 (x.2.1.map (IV.int .i64)))), (9, .v (.int .i64 x.1))]) (fun _ => []) (fun x => x.2.2.2)
    (fun x => (x.1 ≤ l.length ∧ 0 < x.2.1.length ∧ x.2.1.length ≤ x.1) ∧ (x.2.2.2.get x.2.2.1 = .tip x.2.1.length ∧ x.2.2.1 < x.2.2.2.next) ∧ ∀ q ∈ x.2.1, 0 ≤ q ∧ q < l.length ∧ (sortsA l).getD q.toNat 0 = s) (fun x => l.length - x.1))
def kOf (xs : List IV) (h : Heap) (K : IV → Heap → Prop) : Prop := match xs with
  | [.vslice none e1 n1 3 c1, .int .i64 s, .int .i64 n] => ∃ l : List Nd, (n1 = l.length ∧ c1 = l.flatMap cN) ∧ ((∀ x ∈ l, x.ks.length ≤ 1000000 ∧ x.op ≠ 25 ∧ x.op ≠ 30 ∧ x.op ≠ 31) ∧ l.length ≤ 1000000 ∧ s ∈ sortsA l) ∧ ∀ q : Int, (0 ≤ q ∧ q < l.length ∧ (sortsA l).getD q.toNat 0 = s) → K (.int .i64 q) h
  | _ => False
noncomputable def z33e  := IV.int .i64
noncomputable def z33a (l : List Nd) := TV.v (.vslice none 0 (List.length (sortsA l)) 1 (List.map z33e (sortsA l)))
noncomputable def z33b (l : List Nd) := TV.v (.vslice none 0 l.length 3 (List.flatMap cN l))
noncomputable def z33c (s : Int) := TV.v (.int .i64 s)
noncomputable def z33d (n : Int) := TV.v (.int .i64 n)
noncomputable def z33f  := TV.v IV.nilslice
noncomputable def z33g (l_1 : List Nd) := TV.v (.vslice none 0 (List.length (sortsA l_1)) 1 (List.map z33e (sortsA l_1)))
set_option maxRecDepth 100000 in
theorem vOf (l : List Nd) (s n : Int) (e1 : Nat) (h : Heap) (Q : IV → Heap → Prop) : dF (stdS cNdSort) env 33 noU (ic1 5 (ofInv l s n)) noI [.vslice none e1 (l).length 3 ((l).flatMap cN), .int .i64 s, .int .i64 n] h Q = (
  needS (pureL [IV.vslice none 0 l.length 3 (List.flatMap cN l), IV.int .i64 s, IV.int .i64 n]) (∃ (l_1 : List Nd), (l.length = l_1.length ∧ List.flatMap cN l = List.flatMap cN l_1) ∧ ((∀ (x : Nd), x ∈ l_1 → List.length (Nd.ks x) ≤ 1000000 ∧ Nd.op
 x ≠ 25 ∧ Nd.op x ≠ 30 ∧ Nd.op x ≠ 31) ∧ l_1.length ≤ 1000000) ∧ ((∃ (x : Nat), some (z33b l) = some (z33b l) ∧ some (z33c s) = some (z33c s) ∧ some (z33d n) = some (z33d n) ∧ some (z33g l_1) = some (z33a l) ∧ some z33f = some z33f ∧ some (TV.v (.int .i64
 (0 : Int))) = some (TV.v (.int .i64 (↑x : Int))) ∧ Heap.mk PT.nil 0 = Heap.mk PT.nil 0 ∧ (x ≤ l.length ∧ s ∈ List.drop x (sortsA l)) ∧ True) ∨ ∃ (x : Nat × List Int × Nat × Heap), some (z33b l) = some (z33b l) ∧ some (z33c s) = some (z33c s) ∧ some (z33d n) = some (z33d
 n) ∧ some (z33g l_1) = some (z33a l) ∧ some z33f = some (TV.v (.vslice (some x.2.2.1) x.2.1.length x.2.1.length 1 (List.map z33e x.2.1))) ∧ some (TV.v (.int .i64 0)) = some (TV.v
 (IV.int .i64 (↑x.1 : Int))) ∧ Heap.mk PT.nil 0 = x.2.2.2 ∧ ((x.1 ≤ l.length ∧ 0 < x.2.1.length ∧ x.2.1.length ≤ x.1) ∧ (Heap.get x.2.2.2 (Prod.fst (Prod.snd
 x.2)) = IObj.tip x.2.1.length ∧ x.2.2.1 < Heap.next x.2.2.2) ∧ ∀ (q : Int), q ∈ x.2.1 → 0 ≤ q ∧ q < (↑l.length : Int) ∧ List.getD (sortsA l) q.toNat 0 = s) ∧ True) ∧ (∀ (x
 : Nat) (b : FF), x ≤ l.length ∧ s ∈ List.drop x (sortsA l) → brS (decide ((↑x : Int) < (↑l.length : Int))) (needS (decide (0 ≤ (↑x : Int)) && decide ((↑x : Int) < (↑(List.length (sortsA l)) : Int))) (ldIS .i64 (List.map z33e (sortsA l)) (Int.toNat (↑x : Int) * 1) fun
 (n0 : Int) => brS (n0 == s) ((∃ (x_1 : Nat), some (z33b l) = some (z33b l) ∧ some (z33c s) = some (z33c s) ∧ some (z33d n) = some (z33d n) ∧ some (z33a l) = some (z33a l) ∧ some (TV.v (.vslice (some (0 : Nat)) 1 1 1 [IV.int .i64 (↑x : Int)])) = some z33f ∧ some (TV.v
 (IV.int .i64 (IntKind.wrap .i64 ((↑x : Int) + 1)))) = some (TV.v (.int .i64 (↑x_1 : Int))) ∧ Heap.mk (PT.node PT.nil (some (IObj.tip (1 : Nat))) PT.nil) ((0 : Nat) + 1) = Heap.mk PT.nil 0 ∧ (x_1 ≤ l.length ∧ s ∈ List.drop x_1 (sortsA l)) ∧ List.length
 l - x_1 < l.length - x) ∨ ∃ (x_1 : Nat × List Int × Nat × Heap), some (z33b l) = some (z33b l) ∧ some (z33c s) = some (z33c s) ∧ some (z33d n) = some (z33d n) ∧ some (z33a l) = some (z33a l) ∧ some (TV.v (.vslice (some (0 : Nat)) 1 1 1 [IV.int .i64 (↑x : Int)]))
 = some (TV.v (.vslice (some x_1.2.2.1) x_1.2.1.length x_1.2.1.length 1 (List.map z33e x_1.2.1))) ∧ some (TV.v (.int .i64 (IntKind.wrap .i64 ((↑x : Int) + 1)))) = some (TV.v
 (IV.int .i64 (↑x_1.1 : Int))) ∧ Heap.mk (PT.node PT.nil (some (IObj.tip (1 : Nat))) PT.nil) ((0 : Nat) + 1) = x_1.2.2.2 ∧ ((x_1.1 ≤ l.length ∧ 0 < x_1.2.1.length ∧ x_1.2.1.length ≤ Prod.fst
 x_1) ∧ (Heap.get x_1.2.2.2 x_1.2.2.1 = IObj.tip x_1.2.1.length ∧ x_1.2.2.1 < Heap.next x_1.2.2.2) ∧ ∀ (q : Int), q ∈ x_1.2.1 → 0 ≤ q ∧ q < (↑(List.length
 l) : Int) ∧ List.getD (sortsA l) q.toNat 0 = s) ∧ l.length - x_1.1 < l.length - x) ((∃ (x_1 : Nat), some (z33b l) = some (z33b l) ∧ some (z33c s) = some (z33c s) ∧ some (z33d n) = some (z33d n) ∧ some (z33a l) = some (z33a l) ∧ some z33f = some z33f ∧ some (TV.v (.int
 .i64 (IntKind.wrap .i64 ((↑x : Int) + 1)))) = some (TV.v (.int .i64 (↑x_1 : Int))) ∧ Heap.mk PT.nil 0 = Heap.mk PT.nil 0 ∧ (x_1 ≤ l.length ∧ s ∈ List.drop x_1 (sortsA l)) ∧ l.length - x_1 < l.length - x) ∨ ∃ (x_1 : Nat × List Int × Nat × Heap),
 some (z33b l) = some (z33b l) ∧ some (z33c s) = some (z33c s) ∧ some (z33d n) = some (z33d n) ∧ some (z33a l) = some (z33a l) ∧ some z33f = some (TV.v (.vslice (some x_1.2.2.1) x_1.2.1.length x_1.2.1.length 1 (List.map
 z33e x_1.2.1))) ∧ some (TV.v (.int .i64 (IntKind.wrap .i64 ((↑x : Int) + 1)))) = some (TV.v (.int .i64 (↑x_1.1 : Int))) ∧ Heap.mk PT.nil 0 = x_1.2.2.2 ∧ ((x_1.1 ≤ l.length ∧ 0 < List.length
 x_1.2.1 ∧ x_1.2.1.length ≤ x_1.1) ∧ (Heap.get x_1.2.2.2 x_1.2.2.1 = IObj.tip x_1.2.1.length ∧ x_1.2.2.1 < Heap.next x_1.2.2.2)
 ∧ ∀ (q : Int), q ∈ x_1.2.1 → 0 ≤ q ∧ q < (↑l.length : Int) ∧ List.getD (sortsA l) q.toNat 0 = s) ∧ l.length - x_1.1 < l.length - x))) (((0 : Int) < 0 ∧ (0 : Int) < 4611686018427387904) ∧ False)) ∧ ∀ (x : Nat × List Int × Nat
 × Heap) (b : FF), ((x.1 ≤ l.length ∧ 0 < x.2.1.length ∧ x.2.1.length ≤ x.1) ∧ (Heap.get x.2.2.2 x.2.2.1 = IObj.tip x.2.1.length ∧ Prod.fst (Prod.snd
 x.2) < Heap.next x.2.2.2) ∧ ∀ (q : Int), q ∈ x.2.1 → 0 ≤ q ∧ q < (↑l.length : Int) ∧ List.getD (sortsA l) q.toNat 0 = s) → brS (decide ((↑x.1 : Int) < (↑l.length : Int))) (needS (decide (0 ≤ (↑(Prod.fst
 x) : Int)) && decide ((↑x.1 : Int) < (↑(List.length (sortsA l)) : Int))) (ldIS .i64 (List.map z33e (sortsA l)) (Int.toNat (↑x.1 : Int) * 1) fun n1 => brS (n1 == s) (tipS x.2.2.2 x.2.2.1 fun (m2 : Nat) => needS
 (Nat.beq m2 x.2.1.length && Nat.ble ((x.2.1.length + 1) * 8) (140737488355328 : Nat)) ((∃ (x_1 : Nat), some (z33b l) = some (z33b l) ∧ some (z33c s) = some (z33c s) ∧ some (z33d n) = some (z33d n) ∧ some (z33a l) = some (z33a l) ∧ some (TV.v
 (IV.vslice (some x.2.2.1) (x.2.1.length + 1) (x.2.1.length + 1) 1 (List.map z33e x.2.1 ++ [IV.int .i64 (↑x.1 : Int)]))) = some z33f ∧ some (TV.v (.int .i64 (IntKind.wrap
 .i64 ((↑x.1 : Int) + 1)))) = some (TV.v (.int .i64 (↑x_1 : Int))) ∧ Heap.set x.2.2.2 x.2.2.1 (IObj.tip (x.2.1.length + 1)) = Heap.mk PT.nil 0 ∧ (x_1 ≤ l.length ∧ s ∈ List.drop
 x_1 (sortsA l)) ∧ l.length - x_1 < l.length - x.1) ∨ ∃ (x_1 : Nat × List Int × Nat × Heap), some (z33b l) = some (z33b l) ∧ some (z33c s) = some (z33c s) ∧ some (z33d n) = some (z33d n) ∧ some (z33a l) = some (z33a l) ∧ some (TV.v (.vslice (some x.2.2.1)
 (x.2.1.length + 1) (x.2.1.length + 1) 1 (List.map z33e x.2.1 ++ [IV.int .i64 (↑x.1 : Int)]))) = some (TV.v (.vslice (some x_1.2.2.1) x_1.2.1.length
 x_1.2.1.length 1 (List.map z33e x_1.2.1))) ∧ some (TV.v (.int .i64 (IntKind.wrap .i64 ((↑x.1 : Int) + 1)))) = some (TV.v (.int .i64 (↑x_1.1 : Int))) ∧ Heap.set x.2.2.2 (Prod.fst
 x.2.2) (IObj.tip (x.2.1.length + 1)) = x_1.2.2.2 ∧ ((x_1.1 ≤ l.length ∧ 0 < x_1.2.1.length ∧ x_1.2.1.length ≤ x_1.1) ∧ (Heap.get (Prod.snd (Prod.snd (Prod.snd
 x_1))) x_1.2.2.1 = IObj.tip x_1.2.1.length ∧ x_1.2.2.1 < Heap.next x_1.2.2.2) ∧ ∀ (q : Int), q ∈ x_1.2.1 → 0 ≤ q ∧ q < (↑l.length : Int) ∧ List.getD (sortsA l) (Int.toNat
 q) 0 = s) ∧ l.length - x_1.1 < l.length - x.1)) ((∃ (x_1 : Nat), some (z33b l) = some (z33b l) ∧ some (z33c s) = some (z33c s) ∧ some (z33d n) = some (z33d n) ∧ some (z33a l) = some (z33a l) ∧ some (TV.v (.vslice (some x.2.2.1) (List.length
 x.2.1) x.2.1.length 1 (List.map z33e x.2.1))) = some z33f ∧ some (TV.v (.int .i64 (IntKind.wrap .i64 ((↑x.1 : Int) + 1)))) = some (TV.v (.int .i64 (↑x_1 : Int))) ∧ Prod.snd (Prod.snd (Prod.snd
 x)) = Heap.mk PT.nil 0 ∧ (x_1 ≤ l.length ∧ s ∈ List.drop x_1 (sortsA l)) ∧ l.length - x_1 < l.length - x.1) ∨ ∃ (x_1 : Nat × List Int × Nat × Heap), some (z33b l) = some (z33b l) ∧ some (z33c s) = some (z33c s) ∧ some (z33d n) = some (z33d n) ∧ some (z33a l) = some (z33a
 l) ∧ some (TV.v (.vslice (some x.2.2.1) x.2.1.length x.2.1.length 1 (List.map z33e x.2.1))) = some (TV.v (.vslice (some x_1.2.2.1) x_1.2.1.length
 x_1.2.1.length 1 (List.map z33e x_1.2.1))) ∧ some (TV.v (.int .i64 (IntKind.wrap .i64 ((↑x.1 : Int) + 1)))) = some (TV.v (.int .i64 (↑x_1.1 : Int))) ∧ x.2.2.2 = Prod.snd (Prod.snd
 x_1.2) ∧ ((x_1.1 ≤ l.length ∧ 0 < x_1.2.1.length ∧ x_1.2.1.length ≤ x_1.1) ∧ (Heap.get x_1.2.2.2 x_1.2.2.1 = IObj.tip x_1.2.1.length ∧ Prod.fst
 x_1.2.2 < Heap.next x_1.2.2.2) ∧ ∀ (q : Int), q ∈ x_1.2.1 → 0 ≤ q ∧ q < (↑l.length : Int) ∧ List.getD (sortsA l) q.toNat 0 = s) ∧ l.length - x_1.1 < l.length - x.1))) ((0 < (↑(List.length
 x.2.1) : Int) ∧ (↑x.2.1.length : Int) < 4611686018427387904) ∧ needS (decide (0 ≤ IntKind.wrap .i64 (IntKind.wrap .i64 ((↑x.2.1.length : Int) - 1) - n % (↑x.2.1.length :
 Int))) && decide (IntKind.wrap .i64 (IntKind.wrap .i64 ((↑x.2.1.length : Int) - 1) - n % (↑x.2.1.length : Int)) < (↑x.2.1.length : Int))) (ldIS .i64 (List.map z33e x.2.1) (Int.toNat
 (IntKind.wrap .i64 (IntKind.wrap .i64 ((↑x.2.1.length : Int) - 1) - n % (↑x.2.1.length : Int))) * 1) fun n3 => Q (.int .i64 n3) h)))) := by kernel_rfl
set_option maxHeartbeats 2000000 in
theorem sOf : ∀ xs h Q, kOf xs h Q → CallW env 33 xs h Q := by
  intro xs h Q hk
  unfold kOf at hk
  split at hk
  · rename_i e1 n1 c1 s n
    obtain ⟨l, ⟨rfl, rfl⟩, hb, hk⟩ := hk
    refine dF_run (okNdSort) (vOf l s n e1 h Q) ?_
    delta z33a z33b z33c z33d z33e z33f z33g
    have tn : ∀ x : Nat, (x : Int).toNat = x := Int.toNat_natCast
    obtain ⟨hb1, hbl, hs⟩ := hb
    have hsl : (sortsA l).length = l.length := sortsA_len l
    have hat : ∀ {i : Nat} (h : i < (sortsA l).length), (sortsA l).getD i 0 = (sortsA l)[i] := fun h => by rw [List.getD_eq_getElem?_getD, List.getElem?_eq_getElem h]; rfl
    refine needS_intro (by simp only [pureL, pureB, pureL_cN, Bool.and_true]) ⟨l, ⟨rfl, rfl⟩, ⟨hb1, hbl⟩, .inl ⟨0, (by first | rfl | exact True.intro), (by first | rfl | exact True.intro), (by first | rfl | exact True.intro), (by first | rfl | exact True.intro), (by first | rfl | exact True.intro), (by first | rfl | exact True.intro), (by first | rfl | exact True.intro), ⟨Nat.zero_le _, hs⟩, trivial⟩, ?_, ?_⟩
    · rintro i _ ⟨hi, hd⟩
      try dsimp only at hi hd ⊢
      refine brS_intro (fun c => ?_) (fun c => ?_)
      · rw [decide_eq_true_eq] at c
        have hlt : i < (sortsA l).length := by omega
        refine needS_intro (by simp; omega) (ldI1 hlt (by rw [Nat.mul_one, tn]) (brS_intro (fun c1 => .inr ⟨(i + 1, [(i : Int)], 0, _), (by first | rfl | exact True.intro), (by first | rfl | exact True.intro), (by first | rfl | exact True.intro), (by first | rfl | exact True.intro), (by first | rfl | exact True.intro), (by rw [IntWalk.i64_in _ (by omega)]; rfl), (by first | rfl | exact True.intro), ⟨⟨by dsimp only; omega, Nat.one_pos, by dsimp only [List.length_cons, List.length_nil]; omega⟩, ⟨rfl, Nat.one_pos⟩, fun q hq => ?_⟩, by dsimp only; omega⟩) (fun c1 => .inl ⟨i + 1, (by first | rfl | exact True.intro), (by first | rfl | exact True.intro), (by first | rfl | exact True.intro), (by first | rfl | exact True.intro), (by first | rfl | exact True.intro), (by rw [IntWalk.i64_in _ (by omega)]; rfl), (by first | rfl | exact True.intro), ⟨by omega, ?_⟩, by omega⟩)))
        · rw [List.mem_singleton.1 hq, tn, hat hlt, beq_iff_eq.1 c1]
          omega
        · rw [List.drop_eq_getElem_cons hlt] at hd
          rcases List.mem_cons.1 hd with q | q
          · rw [beq_eq_false_iff_ne] at c1
            exact absurd q.symm c1
          · exact q
      · rw [decide_eq_false_iff_not] at c
        rw [List.drop_eq_nil_of_le (by omega)] at hd
        cases hd
    · rintro ⟨i, a, ia, g⟩ _ ⟨⟨hi, ha, hai⟩, ⟨hg, hga⟩, hq⟩
      dsimp only at hi ha hai hg hga hq ⊢
      refine brS_intro (fun c => ?_) (fun c => ?_)
      · rw [decide_eq_true_eq] at c
        have hlt : i < (sortsA l).length := by omega
        refine needS_intro (by simp; omega) (ldI1 hlt (by rw [Nat.mul_one, tn]) (brS_intro (fun c1 => tip_intro hg (needS_intro (by simp only [Nat.mul_one, Bool.and_eq_true, nbeq_t, Nat.ble_eq, true_and]; omega) (.inr ⟨(i + 1, a ++ [(i : Int)], ia, g.set ia (.tip (a.length + 1))), (by first | rfl | exact True.intro), (by first | rfl | exact True.intro), (by first | rfl | exact True.intro), (by first | rfl | exact True.intro), (by simp), (by rw [IntWalk.i64_in _ (by omega)]; rfl), (by first | rfl | exact True.intro), ⟨⟨by dsimp only; omega, by simp, by simp; omega⟩, ⟨by rw [get_set_eq]; simp, hga⟩, fun q hq2 => ?_⟩, by dsimp only; omega⟩))) (fun c1 => .inr ⟨(i + 1, a, ia, g), (by first | rfl | exact True.intro), (by first | rfl | exact True.intro), (by first | rfl | exact True.intro), (by first | rfl | exact True.intro), (by first | rfl | exact True.intro), (by rw [IntWalk.i64_in _ (by omega)]; rfl), (by first | rfl | exact True.intro), ⟨⟨by dsimp only; omega, ha, by dsimp only; omega⟩, ⟨hg, hga⟩, hq⟩, by dsimp only; omega⟩)))
        rcases List.mem_append.1 hq2 with hq2 | hq2
        · exact hq q hq2
        · rw [List.mem_singleton.1 hq2, tn, hat hlt, beq_iff_eq.1 c1]
          omega
      · have hm1 := Int.emod_nonneg n (show (a.length : Int) ≠ 0 by omega)
        have hm2 := Int.emod_lt_of_pos n (show (0 : Int) < a.length by omega)
        have w1 : IntKind.i64.wrap ((a.length : Int) - 1) = (a.length : Int) - 1 := IntWalk.i64_in _ (by omega)
        rw [w1]
        have w2 : IntKind.i64.wrap ((a.length : Int) - 1 - n % (a.length : Int)) = (a.length : Int) - 1 - n % (a.length : Int) := IntWalk.i64_in _ (by omega)
        rw [w2]
        have hlt : ((a.length : Int) - 1 - n % (a.length : Int)).toNat < a.length := by omega
        exact ⟨⟨by omega, by omega⟩, needS_intro (by simp; omega) (ldI1 hlt (Nat.mul_one _) (hk _ (hq _ (List.getElem_mem hlt))))⟩
  · exact hk.elim
def cOf := addC 33 kOf cNdSort
theorem okOf : Sound env cOf := sound_add sOf (okNdSort)

def ctInv (l : List Nd) (op im : Int) (ks : List Int) : Inv' := atX Nat (fun x => [(0, .v (.vslice none 0 (l).length 3 ((l).flatMap cN))), (3, .l 3 0), (5, .v (.int .i64 x))]) (fun _ => [(3, [.int .i64 op, .int .i64 im, .vslice none 0 ks.length 1 (ks.map (IV.int .i64))])]) (fun _ => Heap.empty) (fun x => x ≤ l.length) (fun x => l.length - x)
def kCont (xs : List IV) (h : Heap) (K : IV → Heap → Prop) : Prop := match xs with
  | [.vslice none e0 n0 3 c0, .agg [.int .i64 op, .int .i64 im, .vslice none e1 n1 1 c1]] => ∃ (l : List Nd) (ks : List Int), (n0 = l.length ∧ c0 = l.flatMap cN) ∧ (n1 = ks.length ∧ c1 = ks.map (IV.int .i64)) ∧ (l.length ≤ 1000000 ∧ ∀ x ∈ l, x.ks.length ≤ 1000000) ∧ ∀ b : Bool, K (.bool b) h
  | _ => False
noncomputable def z35a (op im : Int) (ks : List Int) := [IV.int .i64 op, IV.int .i64 im, IV.vslice none 0 ks.length 1 (List.map (IV.int .i64) ks)]
noncomputable def z35b (l : List Nd) := TV.v (.vslice none 0 l.length 3 (List.flatMap cN l))
noncomputable def z35c  := TV.l 3 0
set_option maxRecDepth 100000 in
theorem vCont (l : List Nd) (op im : Int) (ks : List Int) (e0 e1 : Nat) (h : Heap) (Q : IV → Heap → Prop) : dF (stdS cOf) env 35 noU (ic1 3 (ctInv l op im ks)) noI [.vslice none e0 (l).length 3 ((l).flatMap cN), .agg [.int .i64 op, .int .i64 im, .vslice none e1 ks.length 1 (ks.map (IV.int .i64))]] h Q = (
  needS (pureL [IV.vslice none 0 l.length 3 (List.flatMap cN l), IV.agg (z35a op im ks)]) ((∃ (x : Nat), some (z35b l) = some (z35b l) ∧ some z35c = some z35c ∧ some (TV.v (.int .i64 0)) = some (TV.v (.int .i64 (↑x : Int))) ∧ some (z35a op im ks) = some
 (z35a op im ks) ∧ Heap.mk PT.nil 0 = Heap.mk PT.nil 0 ∧ Nat.le x l.length ∧ True) ∧ ∀ (x : Nat) (b : FF), x ≤ l.length → brS (decide ((↑x : Int) < (↑l.length : Int))) (needS (decide (0 ≤ (↑x : Int)) && decide ((↑x : Int) < (↑l.length : Int))) (ldIS .i64
 (List.flatMap cN l) (Int.toNat (↑x : Int) * 3) fun n0 => ldIS .i64 (List.flatMap cN l) (Int.toNat (↑x : Int) * 3 + (1 : Nat)) fun n1 => ldVS 1 (List.flatMap cN l) (Int.toNat (↑x : Int) * 3 + (1 : Nat) + 1) fun (i2 : Option Nat) (e3 l4 : Nat)
 (c5 : List IV) => ∃ (ks_1 ks2 : List Int), (l4 = ks_1.length ∧ c5 = List.map (IV.int .i64) ks_1) ∧ (ks.length = ks2.length ∧ List.map (IV.int .i64) ks = List.map (IV.int .i64) ks2) ∧ ks_1.length ≤ 1000000000 ∧ brS (decide (Nd.mk n0 n1 ks_1
 = Nd.mk op im ks2)) (Q (.bool true) h) (∃ (x_1 : Nat), some (z35b l) = some (z35b l) ∧ some z35c = some z35c ∧ some (TV.v (.int .i64 (IntKind.wrap .i64 ((↑x : Int) + 1)))) = some (TV.v (.int .i64 (↑x_1 : Int))) ∧ some (z35a op im ks) = some (z35a op im ks) ∧ Heap.mk
 PT.nil (0 : Nat) = Heap.mk PT.nil 0 ∧ Nat.le x_1 l.length ∧ l.length - x_1 < l.length - x))) (Q (.bool false) h))) := by kernel_rfl
set_option maxHeartbeats 1000000 in
theorem sCont : ∀ xs h Q, kCont xs h Q → CallW env 35 xs h Q := by
  intro xs h Q hk
  unfold kCont at hk
  split at hk
  · rename_i e0 n0 c0 op im e1 n1 c1
    obtain ⟨l, ks, ⟨rfl, rfl⟩, ⟨rfl, rfl⟩, hb, hk⟩ := hk
    refine dF_run (okOf) (vCont l op im ks e0 e1 h Q) ?_
    delta z35a z35b z35c
    have tn : ∀ x : Nat, (x : Int).toNat = x := Int.toNat_natCast
    refine needS_intro (by simp only [pureL, pureB, pureL_ints, pureL_cN, Bool.and_true]) ⟨⟨0, (by first | rfl | exact True.intro), (by first | rfl | exact True.intro), (by first | rfl | exact True.intro), (by first | rfl | exact True.intro), (by first | rfl | exact True.intro), Nat.zero_le _, trivial⟩, ?_⟩
    rintro i _ hi
    refine brS_intro (fun c => ?_) (fun c => hk false)
    rw [decide_eq_true_eq] at c
    have hlt : i < l.length := by omega
    refine needS_intro (by simp; omega) (ldNd hlt (by rw [tn]) ⟨l[i].ks, ks, ⟨rfl, rfl⟩, ⟨rfl, rfl⟩, by have := hb.2 _ (List.getElem_mem hlt); omega, brS_intro (fun _ => hk true) (fun _ => ⟨i + 1, (by first | rfl | exact True.intro), (by first | rfl | exact True.intro), ?_, (by first | rfl | exact True.intro), (by first | rfl | exact True.intro), hlt, by omega⟩)⟩)
    rw [IntWalk.i64_in _ (by omega)]; rfl
  · exact hk.elim
def cCont := addC 35 kCont cOf
theorem okCont : Sound env cCont := sound_add sCont (okOf)

end Go.Proofs.Ytmfnadojephcpaa
