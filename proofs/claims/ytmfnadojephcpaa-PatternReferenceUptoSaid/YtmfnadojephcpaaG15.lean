/-
  Patterns: nodes compared and put.
  Conditions: none.
-/
import Derived.Test.YtmfnadojephcpaaF15
import Derived.KernelRfl
set_option linter.unusedVariables false
set_option linter.unusedSimpArgs false
namespace Go.Proofs.Ytmfnadojephcpaa
open Go.Pv Go.M15
def vvInv (vars : List Int) (n : Int) : Inv' := atX Nat (fun i => [(1, .v (.int .i64 n)), (7, .v (.vslice none 0 (vars).length 1 ((vars).map (IV.int .i64)))), (8, .v (.int .i64 vars.length)), (9, .v (.int .i64 i))]) (fun _ => []) (fun _ => Heap.empty)
  (fun i => i ≤ vars.length ∧ (vars.drop i).all (fun i => decide (0 ≤ i) && decide (i < n)) = vars.all (fun i => decide (0 ≤ i) && decide (i < n))) (fun i => vars.length - i)
def kVVars (xs : List IV) (h : Heap) (K : IV → Heap → Prop) : Prop := match xs with
  | [.vslice none e1 n1 1 c1, .int .i64 n] => ∃ vars : List Int, (n1 = vars.length ∧ c1 = vars.map (IV.int .i64)) ∧ vars.length ≤ 1000000000 ∧ K (.bool (vars.all fun i => decide (0 ≤ i) && decide (i < n))) h
  | _ => False
set_option maxRecDepth 100000 in
theorem vVVars (vars : List Int) (n : Int) (e1 : Nat) (h : Heap) (Q : IV → Heap → Prop) : dF (stdS cKey) env 38 noU (ic1 3 (vvInv vars n)) noI [.vslice none e1 (vars).length 1 ((vars).map (IV.int .i64)), .int .i64 n] h Q = (
  needS (pureL [IV.vslice none (0 : Nat) (List.length vars) (1 : Nat) (List.map (IV.int IntKind.i64) vars), IV.int IntKind.i64 n])
 ((∃ (x : Nat),
 some (TV.v (IV.int IntKind.i64 n)) = some (TV.v (IV.int IntKind.i64 n)) ∧
 some (TV.v (IV.vslice none (0 : Nat) (List.length vars) (1 : Nat) (List.map (IV.int IntKind.i64) vars))) = some (TV.v (IV.vslice none (0 : Nat) (List.length vars) (1 : Nat) (List.map (IV.int IntKind.i64) vars))) ∧
 some (TV.v (IV.int IntKind.i64 (↑(List.length vars) : Int))) = some (TV.v (IV.int IntKind.i64 (↑(List.length vars) : Int))) ∧
 some (TV.v (IV.int IntKind.i64 (0 : Int))) = some (TV.v (IV.int IntKind.i64 (↑x : Int))) ∧
 Heap.mk PT.nil (0 : Nat) = Heap.mk PT.nil (0 : Nat) ∧
 (x ≤ List.length vars ∧ (List.all (List.drop x vars) fun (i : Int) => decide ((0 : Int) ≤ i) && decide (i < n)) = List.all vars fun (i : Int) => decide ((0 : Int) ≤ i) && decide (i < n)) ∧ True) ∧
 ∀ (x : Nat) (b : FF),
 (x ≤ List.length vars ∧ (List.all (List.drop x vars) fun (i : Int) => decide ((0 : Int) ≤ i) && decide (i < n)) = List.all vars fun (i : Int) => decide ((0 : Int) ≤ i) && decide (i < n)) →
 brS (decide ((↑x : Int) < (↑(List.length vars) : Int)))
 (needS (decide ((0 : Int) ≤ (↑x : Int)) && decide ((↑x : Int) < (↑(List.length vars) : Int)))
 (ldIS IntKind.i64 (List.map (IV.int IntKind.i64) vars) (Int.toNat (↑x : Int) * (1 : Nat)) fun (n0 : Int) =>
 brS (decide (n0 < (0 : Int))) (Q (IV.bool false) h)
 (brS (decide (n0 ≥ n)) (Q (IV.bool false) h)
 (∃ (x_1 : Nat),
 some (TV.v (IV.int IntKind.i64 n)) = some (TV.v (IV.int IntKind.i64 n)) ∧
 some (TV.v (IV.vslice none (0 : Nat) (List.length vars) (1 : Nat) (List.map (IV.int IntKind.i64) vars))) = some (TV.v (IV.vslice none (0 : Nat) (List.length vars) (1 : Nat) (List.map (IV.int IntKind.i64) vars))) ∧
 some (TV.v (IV.int IntKind.i64 (↑(List.length vars) : Int))) = some (TV.v (IV.int IntKind.i64 (↑(List.length vars) : Int))) ∧
 some (TV.v (IV.int IntKind.i64 (IntKind.wrap IntKind.i64 ((↑x : Int) + (1 : Int))))) = some (TV.v (IV.int IntKind.i64 (↑x_1 : Int))) ∧
 Heap.mk PT.nil (0 : Nat) = Heap.mk PT.nil (0 : Nat) ∧
 (x_1 ≤ List.length vars ∧ (List.all (List.drop x_1 vars) fun (i : Int) => decide ((0 : Int) ≤ i) && decide (i < n)) = List.all vars fun (i : Int) => decide ((0 : Int) ≤ i) && decide (i < n)) ∧
 List.length vars - x_1 < List.length vars - x))))
 (Q (IV.bool true) h))) := by kernel_rfl
set_option maxHeartbeats 1000000 in
theorem sVVars : ∀ xs h Q, kVVars xs h Q → CallW env 38 xs h Q := by
  intro xs h Q hk
  unfold kVVars at hk
  split at hk
  · rename_i e1 n1 c1 n
    obtain ⟨vars, ⟨rfl, rfl⟩, hb, hk⟩ := hk
    refine dF_run (okKey) (vVVars vars n e1 h Q) ?_
    have tn : ∀ x : Nat, (x : Int).toNat = x := Int.toNat_natCast
    refine needS_intro (by simp only [pureL, pureB, pureL_ints, Bool.and_true]) ⟨⟨0, rfl, rfl, rfl, rfl, rfl, ⟨Nat.zero_le _, rfl⟩, trivial⟩, ?_⟩
    rintro i _ ⟨hi, ha⟩
    try dsimp only at hi ha ⊢
    have fin : (vars.drop i).all (fun i => decide (0 ≤ i) && decide (i < n)) = false → Q (.bool false) h := fun e => by
      rw [← ha, e] at hk
      exact hk
    refine brS_intro (fun c => ?_) (fun c => ?_)
    · rw [decide_eq_true_eq] at c
      have hlt : i < vars.length := by omega
      simp only [tn]
      rw [Nat.mul_one]
      rw [List.drop_eq_getElem_cons hlt, List.all_cons] at ha fin
      refine needS_intro (by simp; omega) (ldIS_map hlt (brS_intro (fun c1 => fin ?_) (fun c1 => brS_intro (fun c2 => fin ?_) (fun c2 => ⟨i + 1, (by first | rfl | exact True.intro), (by first | rfl | exact True.intro), (by first | rfl | exact True.intro), ?_, (by first | rfl | exact True.intro), ⟨hlt, ?_⟩, by (try dsimp only); omega⟩))))
      · rw [decide_eq_true_eq] at c1
        rw [decide_eq_false (by omega), Bool.false_and, Bool.false_and]
      · rw [decide_eq_true_eq] at c2
        rw [decide_eq_false (show ¬ vars[i] < n by omega), Bool.and_false, Bool.false_and]
      · rw [IntWalk.i64_in _ (by omega)]; rfl
      · rw [decide_eq_false_iff_not] at c1 c2
        rw [decide_eq_true (by omega), decide_eq_true (by omega), Bool.true_and, Bool.true_and] at ha
        exact ha
    · rw [decide_eq_false_iff_not] at c
      rw [List.drop_eq_nil_of_le (by omega)] at ha
      rw [← ha] at hk
      exact hk
  · exact hk.elim
def cVVars := addC 38 kVVars cKey
theorem okVVars : Sound env cVVars := sound_add sVVars (okKey)

def snInv (op im : Int) (ks : List Int) (op2 im2 : Int) (ks2 : List Int) : Inv' := atX Nat (fun i => [(2, .l 2 0), (3, .l 3 0), (5, .v (.int .i64 i))]) (fun _ => [(2, [.int .i64 op, .int .i64 im, .vslice none 0 ks.length 1 (ks.map (IV.int .i64))]), (3, [.int .i64 op2, .int .i64 im2, .vslice none 0 ks2.length 1 (ks2.map (IV.int .i64))])]) (fun _ => Heap.empty)
  (fun i => (ks.length = ks2.length ∧ i ≤ ks.length) ∧ ∀ j, j < i → ks[j]? = ks2[j]?) (fun i => ks.length - i)
def kSameNd (xs : List IV) (h : Heap) (K : IV → Heap → Prop) : Prop := match xs with
  | [.agg [.int .i64 op, .int .i64 im, .vslice none e1 n1 1 c1], .agg [.int .i64 op2, .int .i64 im2, .vslice none e2 n2 1 c2]] => ∃ ks ks2 : List Int, (n1 = ks.length ∧ c1 = ks.map (IV.int .i64)) ∧ (n2 = ks2.length ∧ c2 = ks2.map (IV.int .i64)) ∧ ks.length ≤ 1000000000 ∧ K (.bool (decide ((⟨op, im, ks⟩ : Nd) = ⟨op2, im2, ks2⟩))) h
  | _ => False
set_option maxRecDepth 100000 in
theorem vSameNd (op im op2 im2 : Int) (ks ks2 : List Int) (e1 e2 : Nat) (h : Heap) (Q : IV → Heap → Prop) : dF (stdS cVVars) env 41 noU (ic1 5 (snInv op im ks op2 im2 ks2)) noI [.agg [.int .i64 op, .int .i64 im, .vslice none e1 ks.length 1 (ks.map (IV.int .i64))], .agg [.int .i64 op2, .int .i64 im2, .vslice none e2 ks2.length 1 (ks2.map (IV.int .i64))]] h Q = (
  needS
 (pureL
 [IV.agg [IV.int IntKind.i64 op, IV.int IntKind.i64 im, IV.vslice none (0 : Nat) (List.length ks) (1 : Nat) (List.map (IV.int IntKind.i64) ks)],
 IV.agg [IV.int IntKind.i64 op2, IV.int IntKind.i64 im2, IV.vslice none (0 : Nat) (List.length ks2) (1 : Nat) (List.map (IV.int IntKind.i64) ks2)]])
 (brS (op != op2) (Q (IV.bool false) h)
 (brS (im != im2) (Q (IV.bool false) h)
 (brS ((↑(List.length ks) : Int) != (↑(List.length ks2) : Int)) (Q (IV.bool false) h)
 ((∃ (x : Nat),
 some (TV.l (2 : Nat) (0 : Nat)) = some (TV.l (2 : Nat) (0 : Nat)) ∧
 some (TV.l (3 : Nat) (0 : Nat)) = some (TV.l (3 : Nat) (0 : Nat)) ∧
 some (TV.v (IV.int IntKind.i64 (0 : Int))) = some (TV.v (IV.int IntKind.i64 (↑x : Int))) ∧
 some [IV.int IntKind.i64 op, IV.int IntKind.i64 im, IV.vslice none (0 : Nat) (List.length ks) (1 : Nat) (List.map (IV.int IntKind.i64) ks)] =
 some [IV.int IntKind.i64 op, IV.int IntKind.i64 im, IV.vslice none (0 : Nat) (List.length ks) (1 : Nat) (List.map (IV.int IntKind.i64) ks)] ∧
 some [IV.int IntKind.i64 op2, IV.int IntKind.i64 im2, IV.vslice none (0 : Nat) (List.length ks2) (1 : Nat) (List.map (IV.int IntKind.i64) ks2)] =
 some [IV.int IntKind.i64 op2, IV.int IntKind.i64 im2, IV.vslice none (0 : Nat) (List.length ks2) (1 : Nat) (List.map (IV.int IntKind.i64) ks2)] ∧
 Heap.mk PT.nil (0 : Nat) = Heap.mk PT.nil (0 : Nat) ∧ ((List.length ks = List.length ks2 ∧ x ≤ List.length ks) ∧ ∀ (j : Nat), j < x → ks[j]? = ks2[j]?) ∧ True) ∧
 ∀ (x : Nat) (b : FF),
 ((List.length ks = List.length ks2 ∧ x ≤ List.length ks) ∧ ∀ (j : Nat), j < x → ks[j]? = ks2[j]?) →
 brS (decide ((↑x : Int) < (↑(List.length ks) : Int)))
 (needS (decide ((0 : Int) ≤ (↑x : Int)) && decide ((↑x : Int) < (↑(List.length ks) : Int)))
 (ldIS IntKind.i64 (List.map (IV.int IntKind.i64) ks) (Int.toNat (↑x : Int) * (1 : Nat)) fun (n0 : Int) =>
 needS (decide ((0 : Int) ≤ (↑x : Int)) && decide ((↑x : Int) < (↑(List.length ks2) : Int)))
 (ldIS IntKind.i64 (List.map (IV.int IntKind.i64) ks2) (Int.toNat (↑x : Int) * (1 : Nat)) fun (n1 : Int) =>
 brS (n0 != n1) (Q (IV.bool false) h)
 (∃ (x_1 : Nat),
 some (TV.l (2 : Nat) (0 : Nat)) = some (TV.l (2 : Nat) (0 : Nat)) ∧
 some (TV.l (3 : Nat) (0 : Nat)) = some (TV.l (3 : Nat) (0 : Nat)) ∧
 some (TV.v (IV.int IntKind.i64 (IntKind.wrap IntKind.i64 ((↑x : Int) + (1 : Int))))) = some (TV.v (IV.int IntKind.i64 (↑x_1 : Int))) ∧
 some [IV.int IntKind.i64 op, IV.int IntKind.i64 im, IV.vslice none (0 : Nat) (List.length ks) (1 : Nat) (List.map (IV.int IntKind.i64) ks)] =
 some [IV.int IntKind.i64 op, IV.int IntKind.i64 im, IV.vslice none (0 : Nat) (List.length ks) (1 : Nat) (List.map (IV.int IntKind.i64) ks)] ∧
 some [IV.int IntKind.i64 op2, IV.int IntKind.i64 im2, IV.vslice none (0 : Nat) (List.length ks2) (1 : Nat) (List.map (IV.int IntKind.i64) ks2)] =
 some [IV.int IntKind.i64 op2, IV.int IntKind.i64 im2, IV.vslice none (0 : Nat) (List.length ks2) (1 : Nat) (List.map (IV.int IntKind.i64) ks2)] ∧
 Heap.mk PT.nil (0 : Nat) = Heap.mk PT.nil (0 : Nat) ∧
 ((List.length ks = List.length ks2 ∧ x_1 ≤ List.length ks) ∧ ∀ (j : Nat), j < x_1 → ks[j]? = ks2[j]?) ∧ List.length ks - x_1 < List.length ks - x))))
 (Q (IV.bool true) h)))))) := by kernel_rfl
set_option maxHeartbeats 1000000 in
theorem sSameNd : ∀ xs h Q, kSameNd xs h Q → CallW env 41 xs h Q := by
  intro xs h Q hk
  unfold kSameNd at hk
  split at hk
  · rename_i op im e1 n1 c1 op2 im2 e2 n2 c2
    obtain ⟨ks, ks2, ⟨rfl, rfl⟩, ⟨rfl, rfl⟩, hb, hk⟩ := hk
    refine dF_run (okVVars) (vSameNd op im op2 im2 ks ks2 e1 e2 h Q) ?_
    have tn : ∀ x : Nat, (x : Int).toNat = x := Int.toNat_natCast
    have fin : ∀ b : Bool, (b = true ↔ (op = op2 ∧ im = im2 ∧ ks = ks2)) → Q (.bool b) h := fun b e => by
      have : b = decide ((⟨op, im, ks⟩ : Nd) = ⟨op2, im2, ks2⟩) := by
        rw [Bool.eq_iff_iff, e, decide_eq_true_eq, Nd.mk.injEq]
      rw [this]
      exact hk
    have no : ¬ (op = op2 ∧ im = im2 ∧ ks = ks2) → Q (.bool false) h := fun e => fin false ⟨fun q => (by cases q), fun q => absurd q e⟩
    refine needS_intro (by simp only [pureL, pureB, pureL_ints, Bool.and_true]) (brS_intro (fun c => no (fun e => bne_iff_ne.1 c e.1)) (fun c1 => brS_intro (fun c => no (fun e => bne_iff_ne.1 c e.2.1)) (fun c2 => brS_intro (fun c => no (fun e => bne_iff_ne.1 c (by rw [e.2.2]))) (fun c3 => ?_))))
    rw [bne_eq_false_iff_eq] at c1 c2 c3
    subst c1 c2
    have hl : ks.length = ks2.length := by omega
    refine ⟨⟨0, rfl, rfl, rfl, rfl, rfl, rfl, ⟨⟨hl, Nat.zero_le _⟩, fun j hj => by omega⟩, trivial⟩, ?_⟩
    rintro i _ ⟨⟨hl2, hi⟩, ha⟩
    try dsimp only at hi ha ⊢
    refine brS_intro (fun c => ?_) (fun c => ?_)
    · rw [decide_eq_true_eq] at c
      have hlt : i < ks.length := by omega
      have hlt2 : i < ks2.length := by omega
      simp only [tn]
      rw [Nat.mul_one]
      refine needS_intro (by simp; omega) (ldIS_map hlt (needS_intro (by simp; omega) (ldIS_map hlt2 (brS_intro (fun c1 => no (fun e => ?_)) (fun c1 => ⟨i + 1, (by first | rfl | exact True.intro), (by first | rfl | exact True.intro), ?_, (by first | rfl | exact True.intro), (by first | rfl | exact True.intro), (by first | rfl | exact True.intro), ⟨⟨hl, hlt⟩, fun j hj => ?_⟩, by (try dsimp only); omega⟩)))))
      · have e := e.2.2
        subst e
        simp at c1
      · rw [IntWalk.i64_in _ (by omega)]; rfl
      · rcases Nat.lt_or_ge j i with q | q
        · exact ha j q
        · obtain rfl : j = i := by omega
          rw [bne_eq_false_iff_eq] at c1
          rw [List.getElem?_eq_getElem hlt, List.getElem?_eq_getElem hlt2, c1]
    · rw [decide_eq_false_iff_not] at c
      refine fin true ⟨fun _ => ⟨rfl, rfl, List.ext_getElem? fun j => ?_⟩, fun _ => rfl⟩
      rcases Nat.lt_or_ge j i with q | q
      · exact ha j q
      · rw [List.getElem?_eq_none (by omega), List.getElem?_eq_none (by omega)]
  · exact hk.elim
def cSameNd := addC 41 kSameNd cVVars
theorem okSameNd : Sound env cSameNd := sound_add sSameNd (okVVars)

def sNInv (l m : List Nd) : Inv' := atX Nat (fun i => [(0, .v (.vslice none 0 (l).length 3 ((l).flatMap cN))), (1, .v (.vslice none 0 (m).length 3 ((m).flatMap cN))), (5, .v (.int .i64 i))]) (fun _ => []) (fun _ => Heap.empty)
  (fun i => (l.length = m.length ∧ i ≤ l.length) ∧ ∀ j, j < i → l[j]? = m[j]?) (fun i => l.length - i)
def kSameNds (xs : List IV) (h : Heap) (K : IV → Heap → Prop) : Prop := match xs with
  | [.vslice none e1 n1 3 c1, .vslice none e2 n2 3 c2] => ∃ l m : List Nd, (n1 = l.length ∧ c1 = l.flatMap cN) ∧ (n2 = m.length ∧ c2 = m.flatMap cN) ∧ ((∀ x ∈ l, x.ks.length ≤ 1000000000) ∧ l.length ≤ 1000000000) ∧ K (.bool (decide (l = m))) h
  | _ => False
set_option maxRecDepth 100000 in
theorem vSameNds (l m : List Nd) (e1 e2 : Nat) (h : Heap) (Q : IV → Heap → Prop) : dF (stdS cSameNd) env 24 noU (ic1 5 (sNInv l m)) noI [.vslice none e1 (l).length 3 ((l).flatMap cN), .vslice none e2 (m).length 3 ((m).flatMap cN)] h Q = (
  needS (pureL [IV.vslice none (0 : Nat) (List.length l) (3 : Nat) (List.flatMap cN l), IV.vslice none (0 : Nat) (List.length m) (3 : Nat) (List.flatMap cN m)])
 (brS ((↑(List.length l) : Int) != (↑(List.length m) : Int)) (Q (IV.bool false) h)
 ((∃ (x : Nat),
 some (TV.v (IV.vslice none (0 : Nat) (List.length l) (3 : Nat) (List.flatMap cN l))) = some (TV.v (IV.vslice none (0 : Nat) (List.length l) (3 : Nat) (List.flatMap cN l))) ∧
 some (TV.v (IV.vslice none (0 : Nat) (List.length m) (3 : Nat) (List.flatMap cN m))) = some (TV.v (IV.vslice none (0 : Nat) (List.length m) (3 : Nat) (List.flatMap cN m))) ∧
 some (TV.v (IV.int IntKind.i64 (0 : Int))) = some (TV.v (IV.int IntKind.i64 (↑x : Int))) ∧
 Heap.mk PT.nil (0 : Nat) = Heap.mk PT.nil (0 : Nat) ∧ ((List.length l = List.length m ∧ x ≤ List.length l) ∧ ∀ (j : Nat), j < x → l[j]? = m[j]?) ∧ True) ∧
 ∀ (x : Nat) (b : FF),
 ((List.length l = List.length m ∧ x ≤ List.length l) ∧ ∀ (j : Nat), j < x → l[j]? = m[j]?) →
 brS (decide ((↑x : Int) < (↑(List.length l) : Int)))
 (needS (decide ((0 : Int) ≤ (↑x : Int)) && decide ((↑x : Int) < (↑(List.length l) : Int)))
 (ldIS IntKind.i64 (List.flatMap cN l) (Int.toNat (↑x : Int) * (3 : Nat)) fun (n0 : Int) =>
 ldIS IntKind.i64 (List.flatMap cN l) (Int.toNat (↑x : Int) * (3 : Nat) + (1 : Nat)) fun (n1 : Int) =>
 ldVS (1 : Nat) (List.flatMap cN l) (Int.toNat (↑x : Int) * (3 : Nat) + (1 : Nat) + (1 : Nat)) fun (i2 : Option Nat) (e3 l4 : Nat) (c5 : List IV) =>
 needS (decide ((0 : Int) ≤ (↑x : Int)) && decide ((↑x : Int) < (↑(List.length m) : Int)))
 (ldIS IntKind.i64 (List.flatMap cN m) (Int.toNat (↑x : Int) * (3 : Nat)) fun (n6 : Int) =>
 ldIS IntKind.i64 (List.flatMap cN m) (Int.toNat (↑x : Int) * (3 : Nat) + (1 : Nat)) fun (n7 : Int) =>
 ldVS (1 : Nat) (List.flatMap cN m) (Int.toNat (↑x : Int) * (3 : Nat) + (1 : Nat) + (1 : Nat)) fun (i8 : Option Nat) (e9 l10 : Nat) (c11 : List IV) =>
 ∃ (ks : List Int),
 ∃ (ks2 : List Int),
 (l4 = List.length ks ∧ c5 = List.map (IV.int IntKind.i64) ks) ∧
 (l10 = List.length ks2 ∧ c11 = List.map (IV.int IntKind.i64) ks2) ∧
 List.length ks ≤ (1000000000 : Nat) ∧
 brS (!decide (Nd.mk n0 n1 ks = Nd.mk n6 n7 ks2)) (Q (IV.bool false) h)
 (∃ (x_1 : Nat),
 some (TV.v (IV.vslice none (0 : Nat) (List.length l) (3 : Nat) (List.flatMap cN l))) = some (TV.v (IV.vslice none (0 : Nat) (List.length l) (3 : Nat) (List.flatMap cN l))) ∧
 some (TV.v (IV.vslice none (0 : Nat) (List.length m) (3 : Nat) (List.flatMap cN m))) = some (TV.v (IV.vslice none (0 : Nat) (List.length m) (3 : Nat) (List.flatMap cN m))) ∧
 some (TV.v (IV.int IntKind.i64 (IntKind.wrap IntKind.i64 ((↑x : Int) + (1 : Int))))) = some (TV.v (IV.int IntKind.i64 (↑x_1 : Int))) ∧
 Heap.mk PT.nil (0 : Nat) = Heap.mk PT.nil (0 : Nat) ∧
 ((List.length l = List.length m ∧ x_1 ≤ List.length l) ∧ ∀ (j : Nat), j < x_1 → l[j]? = m[j]?) ∧ List.length l - x_1 < List.length l - x))))
 (Q (IV.bool true) h)))) := by kernel_rfl
set_option maxHeartbeats 1000000 in
theorem sSameNds : ∀ xs h Q, kSameNds xs h Q → CallW env 24 xs h Q := by
  intro xs h Q hk
  unfold kSameNds at hk
  split at hk
  · rename_i e1 n1 c1 e2 n2 c2
    obtain ⟨l, m, ⟨rfl, rfl⟩, ⟨rfl, rfl⟩, hb, hk⟩ := hk
    refine dF_run (okSameNd) (vSameNds l m e1 e2 h Q) ?_
    have tn : ∀ x : Nat, (x : Int).toNat = x := Int.toNat_natCast
    refine needS_intro (by simp only [pureL, pureB, pureL_cN, Bool.and_true]) (brS_intro (fun c => ?_) (fun c => ?_))
    · rw [decide_eq_false (fun e => by subst e; simp at c)] at hk
      exact hk
    rw [bne_eq_false_iff_eq] at c
    have hl : l.length = m.length := by omega
    have no : l ≠ m → Q (.bool false) h := fun e => by
      rw [decide_eq_false e] at hk
      exact hk
    refine ⟨⟨0, rfl, rfl, rfl, rfl, ⟨⟨hl, Nat.zero_le _⟩, fun j hj => by omega⟩, trivial⟩, ?_⟩
    rintro i _ ⟨⟨hl2, hi⟩, ha⟩
    try dsimp only at hi ha ⊢
    refine brS_intro (fun c => ?_) (fun c => ?_)
    · rw [decide_eq_true_eq] at c
      have hlt : i < l.length := by omega
      have hlt2 : i < m.length := by omega
      simp only [tn]
      have et : ∀ x : Nd, (⟨x.op, x.im, x.ks⟩ : Nd) = x := fun x => by cases x; rfl
      refine needS_intro (by simp; omega) (ldNd hlt rfl (needS_intro (by simp; omega) (ldNd hlt2 rfl ⟨l[i].ks, m[i].ks, ⟨rfl, rfl⟩, ⟨rfl, rfl⟩, hb.1 _ (List.getElem_mem hlt), brS_intro (fun c1 => no (fun e => ?_)) (fun c1 => ⟨i + 1, (by first | rfl | exact True.intro), (by first | rfl | exact True.intro), ?_, (by first | rfl | exact True.intro), ⟨⟨hl, hlt⟩, fun j hj => ?_⟩, by (try dsimp only); omega⟩)⟩)))
      · subst e
        simp at c1
      · rw [IntWalk.i64_in _ (by omega)]; rfl
      · rcases Nat.lt_or_ge j i with q | q
        · exact ha j q
        · obtain rfl : j = i := by omega
          rw [Bool.not_eq_false', decide_eq_true_eq, et, et] at c1
          rw [List.getElem?_eq_getElem hlt, List.getElem?_eq_getElem hlt2, c1]
    · rw [decide_eq_false_iff_not] at c
      have e : l = m := List.ext_getElem? fun j => by
        rcases Nat.lt_or_ge j i with q | q
        · exact ha j q
        · rw [List.getElem?_eq_none (by omega), List.getElem?_eq_none (by omega)]
      rw [decide_eq_true e] at hk
      exact hk
  · exact hk.elim
def cSameNds := addC 24 kSameNds cSameNd
theorem okSameNds : Sound env cSameNds := sound_add sSameNds (okSameNd)

end Go.Proofs.Ytmfnadojephcpaa
