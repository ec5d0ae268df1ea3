/-
  Sorts of nodes with loops: what the program computes.
  Conditions: none.
-/
import Derived.Test.YthoehkkoaegeoaaLA10
import Derived.KernelRfl
set_option linter.unusedVariables false
set_option linter.unusedSimpArgs false
namespace Go.Proofs.Ythoehkkoaegeoaa
open Go.Pv Go.M15 Go.M10
def kIArity (xs : List IV) (h : Heap) (K : IV → Heap → Prop) : Prop := match xs with
  | [.int .i64 op] => K (.tuple [.int .i64 (ar op), .bool (arOk op)]) h
  | _ => False
set_option maxRecDepth 100000 in
theorem vIArity (op : Int) (h : Heap) (Q : IV → Heap → Prop) : dF (stdS cNdSort) env 52 noU noI noI [.int .i64 op] h Q = (
  brS (op == (1 : Int)) (Q (IV.tuple [IV.int IntKind.i64 (0 : Int), IV.bool true]) h)
 (brS (op == (2 : Int)) (Q (IV.tuple [IV.int IntKind.i64 (0 : Int), IV.bool true]) h)
 (brS (op == (3 : Int)) (Q (IV.tuple [IV.int IntKind.i64 (0 : Int), IV.bool true]) h)
 (brS (op == (26 : Int)) (Q (IV.tuple [IV.int IntKind.i64 (0 : Int), IV.bool true]) h)
 (brS (op == (20 : Int)) (Q (IV.tuple [IV.int IntKind.i64 (1 : Int), IV.bool true]) h)
 (brS (op == (21 : Int)) (Q (IV.tuple [IV.int IntKind.i64 (1 : Int), IV.bool true]) h)
 (brS (op == (24 : Int)) (Q (IV.tuple [IV.int IntKind.i64 (1 : Int), IV.bool true]) h)
 (brS (op == (25 : Int)) (Q (IV.tuple [IV.int IntKind.i64 (1 : Int), IV.bool true]) h)
 (brS (op == (23 : Int)) (Q (IV.tuple [IV.int IntKind.i64 (2 : Int), IV.bool true]) h)
 (brS (op == (27 : Int)) (Q (IV.tuple [IV.int IntKind.i64 (2 : Int), IV.bool true]) h)
 (brS (op == (29 : Int)) (Q (IV.tuple [IV.int IntKind.i64 (2 : Int), IV.bool true]) h)
 (brS (op == (22 : Int)) (Q (IV.tuple [IV.int IntKind.i64 (3 : Int), IV.bool true]) h)
 (brS (op == (28 : Int)) (Q (IV.tuple [IV.int IntKind.i64 (3 : Int), IV.bool true]) h)
 (brS (op == (30 : Int)) (Q (IV.tuple [IV.int IntKind.i64 (-1 : Int), IV.bool true]) h)
 (brS (op == (31 : Int)) (Q (IV.tuple [IV.int IntKind.i64 (-1 : Int), IV.bool true]) h)
 (brS (decide (op ≥ (4 : Int))) (brS (decide (op ≤ (19 : Int))) (Q (IV.tuple [IV.int IntKind.i64 (2 : Int), IV.bool true]) h) (Q (IV.tuple [IV.int IntKind.i64 (0 : Int), IV.bool false]) h))
 (Q (IV.tuple [IV.int IntKind.i64 (0 : Int), IV.bool false]) h))))))))))))))))) := by kernel_rfl
set_option maxHeartbeats 2000000 in
theorem sIArity : ∀ xs h Q, kIArity xs h Q → CallW env 52 xs h Q := by
  intro xs h Q hk
  unfold kIArity at hk
  split at hk
  · rename_i op
    refine dF_run (okNdSort) (vIArity op h Q) ?_
    repeat' (first | refine needS_intro ?_ ?_ | refine brS_intro (fun _ => ?_) (fun _ => ?_) | refine And.intro ?_ ?_)
    all_goals first | assumption | omega | (refine q_eq hk ?_; simp only [IV.agg.injEq, IV.tuple.injEq, IV.int.injEq, IV.bool.injEq, List.cons.injEq, true_and, and_true]; grind [ar, arOk])
  · exact hk.elim
def cIArity := addC 52 kIArity cNdSort
theorem okIArity : Sound env cIArity := sound_add sIArity (okNdSort)

def kOpSo (xs : List IV) (h : Heap) (K : IV → Heap → Prop) : Prop := match xs with
  | [.int .i64 op] => K (.vslice none 0 (osL op).length 1 ((osL op).map (IV.int .i64))) h
  | _ => False
set_option maxRecDepth 100000 in
theorem vOpSo (op : Int) (h : Heap) (Q : IV → Heap → Prop) : dF (stdS cIArity) env 56 noU noI noI [.int .i64 op] h Q = (
  brS (op == (22 : Int)) (Q (IV.vslice none (0 : Nat) (3 : Nat) (1 : Nat) [IV.int IntKind.i64 (1 : Int), IV.int IntKind.i64 (1 : Int), IV.int IntKind.i64 (1 : Int)]) h)
 (brS (op == (23 : Int)) (Q (IV.vslice none (0 : Nat) (2 : Nat) (1 : Nat) [IV.int IntKind.i64 (2 : Int), IV.int IntKind.i64 (1 : Int)]) h)
 (brS (op == (27 : Int)) (Q (IV.vslice none (0 : Nat) (2 : Nat) (1 : Nat) [IV.int IntKind.i64 (2 : Int), IV.int IntKind.i64 (1 : Int)]) h)
 (brS (op == (29 : Int)) (Q (IV.vslice none (0 : Nat) (2 : Nat) (1 : Nat) [IV.int IntKind.i64 (2 : Int), IV.int IntKind.i64 (1 : Int)]) h)
 (brS (op == (28 : Int)) (Q (IV.vslice none (0 : Nat) (3 : Nat) (1 : Nat) [IV.int IntKind.i64 (2 : Int), IV.int IntKind.i64 (1 : Int), IV.int IntKind.i64 (1 : Int)]) h)
 (brS (op == (24 : Int)) (Q (IV.vslice none (0 : Nat) (1 : Nat) (1 : Nat) [IV.int IntKind.i64 (2 : Int)]) h)
 (brS (op == (25 : Int)) (Q (IV.vslice none (0 : Nat) (1 : Nat) (1 : Nat) [IV.int IntKind.i64 (3 : Int)]) h) (Q (IV.vslice none (0 : Nat) (2 : Nat) (1 : Nat) [IV.int IntKind.i64 (1 : Int), IV.int IntKind.i64 (1 : Int)]) h)))))))) := by kernel_rfl
theorem sOpSo : ∀ xs h Q, kOpSo xs h Q → CallW env 56 xs h Q := by
  intro xs h Q hk
  unfold kOpSo at hk
  split at hk
  · rename_i op
    refine dF_run (okIArity) (vOpSo op h Q) ?_
    have fin : ∀ w : List Int, osL op = w → Q (.vslice none 0 (w).length 1 ((w).map (IV.int .i64))) h := by
      rintro _ rfl
      exact hk
    repeat' (refine brS_intro (fun _ => ?_) (fun _ => ?_))
    all_goals simp only [beq_iff_eq, beq_eq_false_iff_ne] at *
    all_goals first | exact fin [1, 1, 1] (by simp [osL, *]) | exact fin [2, 1] (by simp [osL, *]) | exact fin [2, 1, 1] (by simp [osL, *]) | exact fin [2] (by simp [osL, *]) | exact fin [3] (by simp [osL, *]) | exact fin [1, 1] (by simp [osL, *])
  · exact hk.elim
def cOpSo := addC 56 kOpSo cIArity
theorem okOpSo : Sound env cOpSo := sound_add sOpSo (okIArity)

def mtInv (s w : List Int) : Inv' := atX Nat (fun i => [(0, .v (.vslice none 0 (s).length 1 ((s).map (IV.int .i64)))), (1, .v (.vslice none 0 (w).length 1 ((w).map (IV.int .i64)))), (5, .v (.int .i64 i))]) (fun _ => []) (fun _ => Heap.empty)
  (fun i => i ≤ s.length ∧ ∀ j, j < i → s[j]? = w[j]?) (fun i => s.length - i)
def kMatch (xs : List IV) (h : Heap) (K : IV → Heap → Prop) : Prop := match xs with
  | [.vslice none e1 n1 1 c1, .vslice none e2 n2 1 c2] => ∃ s w : List Int, (n1 = s.length ∧ c1 = s.map (IV.int .i64)) ∧ (n2 = w.length ∧ c2 = w.map (IV.int .i64)) ∧ (s.length ≤ w.length ∧ s.length ≤ 1000000000) ∧ K (.bool (decide (s = w.take s.length))) h
  | _ => False
set_option maxRecDepth 100000 in
theorem vMatch (s w : List Int) (e1 e2 : Nat) (h : Heap) (Q : IV → Heap → Prop) : dF (stdS cOpSo) env 54 noU (ic1 3 (mtInv s w)) noI [.vslice none e1 (s).length 1 ((s).map (IV.int .i64)), .vslice none e2 (w).length 1 ((w).map (IV.int .i64))] h Q = (
  needS (pureL [IV.vslice none (0 : Nat) (List.length s) (1 : Nat) (List.map (IV.int IntKind.i64) s), IV.vslice none (0 : Nat) (List.length w) (1 : Nat) (List.map (IV.int IntKind.i64) w)])
 ((∃ (x : Nat),
 some (TV.v (IV.vslice none (0 : Nat) (List.length s) (1 : Nat) (List.map (IV.int IntKind.i64) s))) = some (TV.v (IV.vslice none (0 : Nat) (List.length s) (1 : Nat) (List.map (IV.int IntKind.i64) s))) ∧
 some (TV.v (IV.vslice none (0 : Nat) (List.length w) (1 : Nat) (List.map (IV.int IntKind.i64) w))) = some (TV.v (IV.vslice none (0 : Nat) (List.length w) (1 : Nat) (List.map (IV.int IntKind.i64) w))) ∧
 some (TV.v (IV.int IntKind.i64 (0 : Int))) = some (TV.v (IV.int IntKind.i64 (↑x : Int))) ∧ Heap.mk PT.nil (0 : Nat) = Heap.mk PT.nil (0 : Nat) ∧ (x ≤ List.length s ∧ ∀ (j : Nat), j < x → s[j]? = w[j]?) ∧ True) ∧
 ∀ (x : Nat) (b : FF),
 (x ≤ List.length s ∧ ∀ (j : Nat), j < x → s[j]? = w[j]?) →
 brS (decide ((↑x : Int) < (↑(List.length s) : Int)))
 (needS (decide ((0 : Int) ≤ (↑x : Int)) && decide ((↑x : Int) < (↑(List.length s) : Int)))
 (ldIS IntKind.i64 (List.map (IV.int IntKind.i64) s) (Int.toNat (↑x : Int) * (1 : Nat)) fun (n0 : Int) =>
 needS (decide ((0 : Int) ≤ (↑x : Int)) && decide ((↑x : Int) < (↑(List.length w) : Int)))
 (ldIS IntKind.i64 (List.map (IV.int IntKind.i64) w) (Int.toNat (↑x : Int) * (1 : Nat)) fun (n1 : Int) =>
 brS (n0 != n1) (Q (IV.bool false) h)
 (∃ (x_1 : Nat),
 some (TV.v (IV.vslice none (0 : Nat) (List.length s) (1 : Nat) (List.map (IV.int IntKind.i64) s))) = some (TV.v (IV.vslice none (0 : Nat) (List.length s) (1 : Nat) (List.map (IV.int IntKind.i64) s))) ∧
 some (TV.v (IV.vslice none (0 : Nat) (List.length w) (1 : Nat) (List.map (IV.int IntKind.i64) w))) = some (TV.v (IV.vslice none (0 : Nat) (List.length w) (1 : Nat) (List.map (IV.int IntKind.i64) w))) ∧
 some (TV.v (IV.int IntKind.i64 (IntKind.wrap IntKind.i64 ((↑x : Int) + (1 : Int))))) = some (TV.v (IV.int IntKind.i64 (↑x_1 : Int))) ∧
 Heap.mk PT.nil (0 : Nat) = Heap.mk PT.nil (0 : Nat) ∧ (x_1 ≤ List.length s ∧ ∀ (j : Nat), j < x_1 → s[j]? = w[j]?) ∧ List.length s - x_1 < List.length s - x))))
 (Q (IV.bool true) h))) := by kernel_rfl
set_option maxHeartbeats 1000000 in
theorem sMatch : ∀ xs h Q, kMatch xs h Q → CallW env 54 xs h Q := by
  intro xs h Q hk
  unfold kMatch at hk
  split at hk
  · rename_i e1 n1 c1 e2 n2 c2
    obtain ⟨s, w, ⟨rfl, rfl⟩, ⟨rfl, rfl⟩, hb, hk⟩ := hk
    refine dF_run (okOpSo) (vMatch s w e1 e2 h Q) ?_
    have tn : ∀ x : Nat, (x : Int).toNat = x := Int.toNat_natCast
    obtain ⟨hl, hb⟩ := hb
    refine needS_intro (by simp only [pureL, pureB, pureL_ints, Bool.and_true]) ⟨⟨0, (by first | rfl | exact True.intro), (by first | rfl | exact True.intro), (by first | rfl | exact True.intro), (by first | rfl | exact True.intro), ⟨Nat.zero_le _, fun j hj => by omega⟩, trivial⟩, ?_⟩
    rintro i _ ⟨hi, ha⟩
    try dsimp only at hi ha ⊢
    refine brS_intro (fun c => ?_) (fun c => ?_)
    · rw [decide_eq_true_eq] at c
      have hlt : i < s.length := by omega
      have hlt2 : i < w.length := by omega
      simp only [tn]
      rw [Nat.mul_one]
      refine needS_intro (by simp; omega) (ldIS_map hlt (needS_intro (by simp; omega) (ldIS_map hlt2 (brS_intro (fun c1 => ?_) (fun c1 => ⟨i + 1, (by first | rfl | exact True.intro), (by first | rfl | exact True.intro), ?_, (by first | rfl | exact True.intro), ⟨hlt, fun j hj => ?_⟩, by (try dsimp only); omega⟩)))))
      · rw [decide_eq_false (fun e => ?_)] at hk
        · exact hk
        · have : s[i]? = (w.take s.length)[i]? := by rw [← e]
          rw [List.getElem?_take_of_lt hlt, List.getElem?_eq_getElem hlt, List.getElem?_eq_getElem hlt2, Option.some.injEq] at this
          rw [this] at c1
          simp at c1
      · rw [IntWalk.i64_in _ (by omega)]; rfl
      · rcases Nat.lt_or_ge j i with q | q
        · exact ha j q
        · obtain rfl : j = i := by omega
          rw [bne_eq_false_iff_eq] at c1
          rw [List.getElem?_eq_getElem hlt, List.getElem?_eq_getElem hlt2, c1]
    · rw [decide_eq_false_iff_not] at c
      rw [decide_eq_true (List.ext_getElem? fun j => ?_)] at hk
      · exact hk
      · rcases Nat.lt_or_ge j s.length with q | q
        · rw [List.getElem?_take_of_lt q, ha j (by omega)]
        · rw [List.getElem?_eq_none q, List.getElem?_eq_none (by simp; omega)]
  · exact hk.elim
def cMatch := addC 54 kMatch cOpSo
theorem okMatch : Sound env cMatch := sound_add sMatch (okOpSo)

def kLoopV (xs : List IV) (h : Heap) (K : IV → Heap → Prop) : Prop := match xs with
  | [.int .i64 k] => (1 ≤ k ∧ k ≤ 1000000) ∧ K (.int .i64 ((k - 1) / 2)) h
  | _ => False
set_option maxRecDepth 100000 in
theorem vLoopV (k : Int) (h : Heap) (Q : IV → Heap → Prop) : dF (stdS cMatch) env 53 noU noI noI [.int .i64 k] h Q = (
  Q (IV.int IntKind.i64 (IntKind.wrap IntKind.i64 (Int.tdiv (IntKind.wrap IntKind.i64 (k - (1 : Int))) (2 : Int)))) h) := by kernel_rfl
theorem sLoopV : ∀ xs h Q, kLoopV xs h Q → CallW env 53 xs h Q := by
  intro xs h Q hk
  unfold kLoopV at hk
  split at hk
  · rename_i k
    obtain ⟨hb, hk⟩ := hk
    refine dF_run (okMatch) (vLoopV k h Q) ?_
    refine q_eq hk ?_
    congr 1
    rw [IntWalk.i64_in (k - 1) (by omega), Int.tdiv_eq_ediv_of_nonneg (by omega), IntWalk.i64_in _ (by omega)]
  · exact hk.elim
def cLoopV := addC 53 kLoopV cMatch
theorem okLoopV : Sound env cLoopV := sound_add sLoopV (okMatch)

def kLoopSo (xs : List IV) (h : Heap) (K : IV → Heap → Prop) : Prop := match xs with
  | [.int .i64 k] => ∃ m : Nat, (1 ≤ m ∧ m ≤ 16) ∧ k = 2 * (m : Int) + 1 ∧ ∀ w : List Int, w = lsL m → K (.vslice none 0 (w).length 1 ((w).map (IV.int .i64))) h
  | _ => False
theorem sLoopSo : ∀ xs h Q, kLoopSo xs h Q → CallW env 55 xs h Q := by
  intro xs h Q hk
  unfold kLoopSo at hk
  split at hk
  · rename_i k
    obtain ⟨m, hm, rfl, hk⟩ := hk
    have h2 : m = 1 ∨ m = 2 ∨ m = 3 ∨ m = 4 ∨ m = 5 ∨ m = 6 ∨ m = 7 ∨ m = 8 ∨ m = 9 ∨ m = 10 ∨ m = 11 ∨ m = 12 ∨ m = 13 ∨ m = 14 ∨ m = 15 ∨ m = 16 := by omega
    rcases h2 with rfl | rfl | rfl | rfl | rfl | rfl | rfl | rfl | rfl | rfl | rfl | rfl | rfl | rfl | rfl | rfl
    all_goals exact ⟨400, _, h, by kernel_rfl, hk _ rfl⟩
  · exact hk.elim
def cLoopSo := addC 55 kLoopSo cLoopV
theorem okLoopSo : Sound env cLoopSo := sound_add sLoopSo (okLoopV)

def kVImm (xs : List IV) (h : Heap) (K : IV → Heap → Prop) : Prop := match xs with
  | [.vslice none e0 n0 3 c0, .agg [.int .i64 op, .int .i64 im, .vslice none e1 n1 1 c1]] => ∃ (l : List Nd) (ks : List Int), (n0 = l.length ∧ c0 = l.flatMap cN) ∧ (n1 = ks.length ∧ c1 = ks.map (IV.int .i64)) ∧ op ≠ 25 ∧ K (.bool (vImm op im)) h
  | _ => False
set_option maxRecDepth 100000 in
theorem vVImm (l : List Nd) (op im : Int) (ks : List Int) (e0 e1 : Nat) (h : Heap) (Q : IV → Heap → Prop) : dF (stdS cLoopSo) env 50 noU noI noI [.vslice none e0 (l).length 3 ((l).flatMap cN), .agg [.int .i64 op, .int .i64 im, .vslice none e1 ks.length 1 (ks.map (IV.int .i64))]] h Q = (
  needS (pureL [IV.vslice none (0 : Nat) (List.length l) (3 : Nat) (List.flatMap cN l), IV.agg [IV.int IntKind.i64 op, IV.int IntKind.i64 im, IV.vslice none (0 : Nat) (List.length ks) (1 : Nat) (List.map (IV.int IntKind.i64) ks)]])
 (brS (op == (1 : Int)) (Q (IV.bool true) h)
 (brS (op == (2 : Int)) (brS (decide (im ≥ (0 : Int))) (Q (IV.bool (decide (im ≤ (5 : Int)))) h) (Q (IV.bool false) h))
 (brS (op == (3 : Int)) (brS (decide (im ≥ (0 : Int))) (Q (IV.bool (decide (im ≤ (255 : Int)))) h) (Q (IV.bool false) h))
 (brS (op == (23 : Int)) (brS (decide (im ≥ (0 : Int))) (Q (IV.bool (decide (im ≤ (3 : Int)))) h) (Q (IV.bool false) h))
 (brS (op == (28 : Int)) (brS (decide (im ≥ (0 : Int))) (Q (IV.bool (decide (im ≤ (3 : Int)))) h) (Q (IV.bool false) h))
 (brS (op == (27 : Int)) (brS (decide (im ≥ (1 : Int))) (Q (IV.bool (decide (im ≤ (1000016 : Int)))) h) (Q (IV.bool false) h))
 (brS (op == (30 : Int)) (brS (decide (im ≥ (0 : Int))) (Q (IV.bool (decide (im ≤ (7 : Int)))) h) (Q (IV.bool false) h))
 (brS (op == (31 : Int)) (brS (decide (im ≥ (0 : Int))) (Q (IV.bool (decide (im ≤ (15 : Int)))) h) (Q (IV.bool false) h))
 (brS (op == (25 : Int))
 (needS (true && decide ((0 : Int) < (↑(List.length ks) : Int)))
 (ldIS IntKind.i64 (List.map (IV.int IntKind.i64) ks) (0 : Nat) fun (n0 : Int) =>
 needS (decide ((0 : Int) ≤ n0) && decide (n0 < (↑(List.length l) : Int)))
 (ldVS (1 : Nat) (List.flatMap cN l) (Int.toNat n0 * (3 : Nat) + (2 : Nat)) fun (i1 : Option Nat) (e2 l3 : Nat) (c4 : List IV) =>
 ((1 : Int) ≤ (↑l3 : Int) ∧ (↑l3 : Int) ≤ (1000000 : Int)) ∧
 brS (decide (im ≥ (0 : Int))) (Q (IV.bool (decide (im ≤ IntKind.wrap IntKind.i64 (((↑l3 : Int) - (1 : Int)) / (2 : Int) - (1 : Int))))) h) (Q (IV.bool false) h))))
 (brS (decide (im ≥ (0 : Int))) (Q (IV.bool (decide (im ≤ (0 : Int)))) h) (Q (IV.bool false) h)))))))))))) := by kernel_rfl
theorem sVImm : ∀ xs h Q, kVImm xs h Q → CallW env 50 xs h Q := by
  intro xs h Q hk
  unfold kVImm at hk
  split at hk
  · rename_i e0 n0 c0 op im e1 n1 c1
    obtain ⟨l, ks, ⟨rfl, rfl⟩, ⟨rfl, rfl⟩, hb, hk⟩ := hk
    refine dF_run (okLoopSo) (vVImm l op im ks e0 e1 h Q) ?_
    have fin : ∀ b : Bool, (b = true ↔ vImm op im = true) → Q (.bool b) h := fun b e => by
      rw [← Bool.eq_iff_iff] at e
      rw [e]
      exact hk
    have hm : mxI 2 = 5 ∧ mxI 3 = 255 ∧ mxI 23 = 3 ∧ mxI 28 = 3 ∧ mxI 27 = 1000016 ∧ mxI 30 = 7 ∧ mxI 31 = 15 := by decide
    refine needS_intro (by simp only [pureL, pureB, pureL_ints, pureL_cN, Bool.and_true]) ?_
    unfold vImm at fin
    simp only [decide_eq_true_eq] at fin
    refine brS_intro (fun c1 => ?_) (fun c1 => ?_)
    · exact fin _ (by rw [beq_iff_eq] at c1; simp [c1])
    refine brS_intro (fun c2 => ?_) (fun c2 => ?_)
    · rw [beq_iff_eq] at c2
      subst c2
      refine brS_intro (fun d => fin _ ?_) (fun d => fin _ ?_)
      · rw [decide_eq_true_eq] at d ⊢; omega
      · rw [decide_eq_false_iff_not] at d; simp only [Bool.false_eq_true, false_iff]; omega
    refine brS_intro (fun c2 => ?_) (fun c3 => ?_)
    · rw [beq_iff_eq] at c2
      subst c2
      refine brS_intro (fun d => fin _ ?_) (fun d => fin _ ?_)
      · rw [decide_eq_true_eq] at d ⊢; omega
      · rw [decide_eq_false_iff_not] at d; simp only [Bool.false_eq_true, false_iff]; omega
    refine brS_intro (fun c2 => ?_) (fun c4 => ?_)
    · rw [beq_iff_eq] at c2
      subst c2
      refine brS_intro (fun d => fin _ ?_) (fun d => fin _ ?_)
      · rw [decide_eq_true_eq] at d ⊢; omega
      · rw [decide_eq_false_iff_not] at d; simp only [Bool.false_eq_true, false_iff]; omega
    refine brS_intro (fun c2 => ?_) (fun c5 => ?_)
    · rw [beq_iff_eq] at c2
      subst c2
      refine brS_intro (fun d => fin _ ?_) (fun d => fin _ ?_)
      · rw [decide_eq_true_eq] at d ⊢; omega
      · rw [decide_eq_false_iff_not] at d; simp only [Bool.false_eq_true, false_iff]; omega
    refine brS_intro (fun c2 => ?_) (fun c6 => ?_)
    · rw [beq_iff_eq] at c2
      subst c2
      refine brS_intro (fun d => fin _ ?_) (fun d => fin _ ?_)
      · rw [decide_eq_true_eq] at d ⊢; omega
      · rw [decide_eq_false_iff_not] at d; simp only [Bool.false_eq_true, false_iff]; omega
    refine brS_intro (fun c2 => ?_) (fun c7 => ?_)
    · rw [beq_iff_eq] at c2
      subst c2
      refine brS_intro (fun d => fin _ ?_) (fun d => fin _ ?_)
      · rw [decide_eq_true_eq] at d ⊢; omega
      · rw [decide_eq_false_iff_not] at d; simp only [Bool.false_eq_true, false_iff]; omega
    refine brS_intro (fun c2 => ?_) (fun c8 => ?_)
    · rw [beq_iff_eq] at c2
      subst c2
      refine brS_intro (fun d => fin _ ?_) (fun d => fin _ ?_)
      · rw [decide_eq_true_eq] at d ⊢; omega
      · rw [decide_eq_false_iff_not] at d; simp only [Bool.false_eq_true, false_iff]; omega
    refine brS_intro (fun c9 => absurd (beq_iff_eq.1 c9) hb) (fun c9 => ?_)
    rw [beq_eq_false_iff_ne] at c1 c2 c3 c4 c5 c6 c7 c8 c9
    have hx : mxI op = -1 := by unfold mxI; rw [if_neg (by omega), if_neg (by omega), if_neg (by omega), if_neg (by omega), if_neg (by omega), if_neg (by omega)]
    rw [hx] at fin
    refine brS_intro (fun d => fin _ ?_) (fun d => fin _ ?_)
    · rw [decide_eq_true_eq] at d ⊢; omega
    · rw [decide_eq_false_iff_not] at d; simp only [Bool.false_eq_true, false_iff]; omega
  · exact hk.elim
def cVImm := addC 50 kVImm cLoopSo
theorem okVImm : Sound env cVImm := sound_add sVImm (okLoopSo)

def kVOps (xs : List IV) (h : Heap) (K : IV → Heap → Prop) : Prop := match xs with
  | [.agg [.int .i64 op, .int .i64 im, .vslice none e1 n1 1 c1], .vslice none e2 n2 1 c2] => ∃ (ks s : List Int), (n1 = ks.length ∧ c1 = ks.map (IV.int .i64)) ∧ (n2 = s.length ∧ c2 = s.map (IV.int .i64)) ∧ ((op ≠ 25 ∧ op ≠ 30 ∧ op ≠ 31) ∧ s.length ≤ 1000000) ∧ K (.bool (vOps op s)) h
  | _ => False
set_option maxRecDepth 100000 in
theorem vVOps (op im : Int) (ks s : List Int) (e1 e2 : Nat) (h : Heap) (Q : IV → Heap → Prop) : dF (stdS cVImm) env 49 noU noI noI [.agg [.int .i64 op, .int .i64 im, .vslice none e1 ks.length 1 (ks.map (IV.int .i64))], .vslice none e2 (s).length 1 ((s).map (IV.int .i64))] h Q = (
  needS
 (pureL [IV.agg [IV.int IntKind.i64 op, IV.int IntKind.i64 im, IV.vslice none (0 : Nat) (List.length ks) (1 : Nat) (List.map (IV.int IntKind.i64) ks)], IV.vslice none (0 : Nat) (List.length s) (1 : Nat) (List.map (IV.int IntKind.i64) s)])
 (brS (!arOk op) (Q (IV.bool false) h)
 (brS (decide (ar op ≥ (0 : Int)))
 (brS (ar op != (↑(List.length s) : Int)) (Q (IV.bool false) h)
 (brS (op == (31 : Int))
 (brS (decide ((↑(List.length s) : Int) ≥ (3 : Int)))
 (brS (Int.tmod (↑(List.length s) : Int) (2 : Int) == (1 : Int))
 (((1 : Int) ≤ (↑(List.length s) : Int) ∧ (↑(List.length s) : Int) ≤ (1000000 : Int)) ∧
 brS (decide (((↑(List.length s) : Int) - (1 : Int)) / (2 : Int) ≤ (16 : Int)))
 (∃ (m : Nat),
 ((1 : Nat) ≤ m ∧ m ≤ (16 : Nat)) ∧
 (↑(List.length s) : Int) = (2 : Int) * (↑m : Int) + (1 : Int) ∧
 ∀ (w : List Int),
 w = (2 : Int) :: (List.replicate m (1 : Int) ++ (2 : Int) :: List.replicate (m - (1 : Nat)) (1 : Int)) →
 ∃ (s_1 : List Int),
 ∃ (w_1 : List Int),
 (List.length s = List.length s_1 ∧ List.map (IV.int IntKind.i64) s = List.map (IV.int IntKind.i64) s_1) ∧
 (List.length w = List.length w_1 ∧ List.map (IV.int IntKind.i64) w = List.map (IV.int IntKind.i64) w_1) ∧
 (List.length s_1 ≤ List.length w_1 ∧ List.length s_1 ≤ (1000000000 : Nat)) ∧ Q (IV.bool (decide (s_1 = List.take (List.length s_1) w_1))) h)
 (Q (IV.bool false) h))
 (Q (IV.bool false) h))
 (Q (IV.bool false) h))
 (brS (op == (30 : Int))
 (brS (decide ((↑(List.length s) : Int) < (1 : Int))) (Q (IV.bool false) h)
 (brS (decide ((↑(List.length s) : Int) > (7 : Int))) (Q (IV.bool false) h)
 (needS (true && decide ((0 : Int) < (↑(List.length s) : Int)))
 (ldIS IntKind.i64 (List.map (IV.int IntKind.i64) s) (0 : Nat) fun (n0 : Int) =>
 brS (n0 != (2 : Int)) (Q (IV.bool false) h) (needS (true && (decide ((1 : Int) ≤ (↑(List.length s) : Int)) && decide ((↑(List.length s) : Int) ≤ (↑(List.length s) : Int)))) False)))))
 (brS (op == (22 : Int))
 (needS (true && decide ((1 : Int) < (↑(List.length s) : Int)))
 (ldIS IntKind.i64 (List.map (IV.int IntKind.i64) s) (1 : Nat) fun (n1 : Int) =>
 brS (n1 == (2 : Int))
 (needS (true && decide ((0 : Int) < (↑(List.length s) : Int)))
 (ldIS IntKind.i64 (List.map (IV.int IntKind.i64) s) (0 : Nat) fun (n2 : Int) =>
 brS (n2 == (1 : Int)) (needS (true && decide ((2 : Int) < (↑(List.length s) : Int))) (ldIS IntKind.i64 (List.map (IV.int IntKind.i64) s) (2 : Nat) fun (n3 : Int) => Q (IV.bool (n3 == (2 : Int))) h))
 (Q (IV.bool false) h)))
 (∃ (s_1 : List Int),
 ∃ (w : List Int),
 (List.length s = List.length s_1 ∧ List.map (IV.int IntKind.i64) s = List.map (IV.int IntKind.i64) s_1) ∧
 (List.length (osL op) = List.length w ∧ List.map (IV.int IntKind.i64) (osL op) = List.map (IV.int IntKind.i64) w) ∧
 (List.length s_1 ≤ List.length w ∧ List.length s_1 ≤ (1000000000 : Nat)) ∧ Q (IV.bool (decide (s_1 = List.take (List.length s_1) w))) h)))
 (∃ (s_1 : List Int),
 ∃ (w : List Int),
 (List.length s = List.length s_1 ∧ List.map (IV.int IntKind.i64) s = List.map (IV.int IntKind.i64) s_1) ∧
 (List.length (osL op) = List.length w ∧ List.map (IV.int IntKind.i64) (osL op) = List.map (IV.int IntKind.i64) w) ∧
 (List.length s_1 ≤ List.length w ∧ List.length s_1 ≤ (1000000000 : Nat)) ∧ Q (IV.bool (decide (s_1 = List.take (List.length s_1) w))) h)))))
 (brS (op == (31 : Int))
 (brS (decide ((↑(List.length s) : Int) ≥ (3 : Int)))
 (brS (Int.tmod (↑(List.length s) : Int) (2 : Int) == (1 : Int))
 (((1 : Int) ≤ (↑(List.length s) : Int) ∧ (↑(List.length s) : Int) ≤ (1000000 : Int)) ∧
 brS (decide (((↑(List.length s) : Int) - (1 : Int)) / (2 : Int) ≤ (16 : Int)))
 (∃ (m : Nat),
 ((1 : Nat) ≤ m ∧ m ≤ (16 : Nat)) ∧
 (↑(List.length s) : Int) = (2 : Int) * (↑m : Int) + (1 : Int) ∧
 ∀ (w : List Int),
 w = (2 : Int) :: (List.replicate m (1 : Int) ++ (2 : Int) :: List.replicate (m - (1 : Nat)) (1 : Int)) →
 ∃ (s_1 : List Int),
 ∃ (w_1 : List Int),
 (List.length s = List.length s_1 ∧ List.map (IV.int IntKind.i64) s = List.map (IV.int IntKind.i64) s_1) ∧
 (List.length w = List.length w_1 ∧ List.map (IV.int IntKind.i64) w = List.map (IV.int IntKind.i64) w_1) ∧
 (List.length s_1 ≤ List.length w_1 ∧ List.length s_1 ≤ (1000000000 : Nat)) ∧ Q (IV.bool (decide (s_1 = List.take (List.length s_1) w_1))) h)
 (Q (IV.bool false) h))
 (Q (IV.bool false) h))
 (Q (IV.bool false) h))
 (brS (op == (30 : Int))
 (brS (decide ((↑(List.length s) : Int) < (1 : Int))) (Q (IV.bool false) h)
 (brS (decide ((↑(List.length s) : Int) > (7 : Int))) (Q (IV.bool false) h)
 (needS (true && decide ((0 : Int) < (↑(List.length s) : Int)))
 (ldIS IntKind.i64 (List.map (IV.int IntKind.i64) s) (0 : Nat) fun (n4 : Int) =>
 brS (n4 != (2 : Int)) (Q (IV.bool false) h) (needS (true && (decide ((1 : Int) ≤ (↑(List.length s) : Int)) && decide ((↑(List.length s) : Int) ≤ (↑(List.length s) : Int)))) False)))))
 (brS (op == (22 : Int))
 (needS (true && decide ((1 : Int) < (↑(List.length s) : Int)))
 (ldIS IntKind.i64 (List.map (IV.int IntKind.i64) s) (1 : Nat) fun (n5 : Int) =>
 brS (n5 == (2 : Int))
 (needS (true && decide ((0 : Int) < (↑(List.length s) : Int)))
 (ldIS IntKind.i64 (List.map (IV.int IntKind.i64) s) (0 : Nat) fun (n6 : Int) =>
 brS (n6 == (1 : Int)) (needS (true && decide ((2 : Int) < (↑(List.length s) : Int))) (ldIS IntKind.i64 (List.map (IV.int IntKind.i64) s) (2 : Nat) fun (n7 : Int) => Q (IV.bool (n7 == (2 : Int))) h))
 (Q (IV.bool false) h)))
 (∃ (s_1 : List Int),
 ∃ (w : List Int),
 (List.length s = List.length s_1 ∧ List.map (IV.int IntKind.i64) s = List.map (IV.int IntKind.i64) s_1) ∧
 (List.length (osL op) = List.length w ∧ List.map (IV.int IntKind.i64) (osL op) = List.map (IV.int IntKind.i64) w) ∧
 (List.length s_1 ≤ List.length w ∧ List.length s_1 ≤ (1000000000 : Nat)) ∧ Q (IV.bool (decide (s_1 = List.take (List.length s_1) w))) h)))
 (∃ (s_1 : List Int),
 ∃ (w : List Int),
 (List.length s = List.length s_1 ∧ List.map (IV.int IntKind.i64) s = List.map (IV.int IntKind.i64) s_1) ∧
 (List.length (osL op) = List.length w ∧ List.map (IV.int IntKind.i64) (osL op) = List.map (IV.int IntKind.i64) w) ∧
 (List.length s_1 ≤ List.length w ∧ List.length s_1 ≤ (1000000000 : Nat)) ∧ Q (IV.bool (decide (s_1 = List.take (List.length s_1) w))) h))))))) := by kernel_rfl
theorem sVOps : ∀ xs h Q, kVOps xs h Q → CallW env 49 xs h Q := by
  intro xs h Q hk
  unfold kVOps at hk
  split at hk
  · rename_i op im e1 n1 c1 e2 n2 c2
    obtain ⟨ks, s, ⟨rfl, rfl⟩, ⟨rfl, rfl⟩, hb, hk⟩ := hk
    refine dF_run (okVImm) (vVOps op im ks s e1 e2 h Q) ?_
    obtain ⟨h3, hl⟩ := hb
    refine needS_intro (by simp only [pureL, pureB, pureL_ints, Bool.and_true]) (brS_intro (fun c => ?_) (fun c => ?_))
    · have e : vOps op s = false := by unfold vOps; simp at c; simp [c]
      rw [e] at hk
      exact hk
    rw [Bool.not_eq_false'] at c
    have ha := osL_ar c h3
    refine brS_intro (fun _ => ?_) (fun d => by rw [decide_eq_false_iff_not] at d; omega)
    refine brS_intro (fun c1 => ?_) (fun c1 => ?_)
    · have e : vOps op s = false := by unfold vOps; rw [bne_iff_ne] at c1; simp [Ne.symm c1]
      rw [e] at hk
      exact hk
    rw [bne_eq_false_iff_eq] at c1
    have hv : vOps op s = (if op = 22 ∧ s.getD 1 0 = 2 then decide (s = [1, 2, 2]) else decide (s = (osL op).take s.length)) := by
      unfold vOps
      rw [c, decide_eq_true c1.symm]
      rfl
    rw [hv] at hk
    refine brS_intro (fun d => absurd (beq_iff_eq.1 d) h3.2.2) (fun _ => brS_intro (fun d => absurd (beq_iff_eq.1 d) h3.2.1) (fun _ => brS_intro (fun d => ?_) (fun d => ?_)))
    · rw [beq_iff_eq] at d
      subst d
      obtain ⟨a, b, e, rfl⟩ := len3 (c1.symm.trans (by decide))
      refine needS_intro (by simp) (ldIS_map (l := [a, b, e]) (i := 1) (by simp) (brS_intro (fun f => needS_intro (by simp) (ldIS_map (l := [a, b, e]) (i := 0) (by simp) (brS_intro (fun f1 => needS_intro (by simp) (ldIS_map (l := [a, b, e]) (i := 2) (by simp) ?_)) (fun f1 => ?_)))) (fun f => ⟨[a, b, e], osL 22, ⟨rfl, rfl⟩, ⟨rfl, rfl⟩, ⟨by show 3 ≤ (osL 22).length; decide, by simp⟩, ?_⟩)))
      · simp at f f1
        subst f f1
        simp at hk
        simp only [List.getElem_cons_succ, List.getElem_cons_zero]
        have e2 : (e == 2) = decide (e = 2) := rfl
        rw [e2]
        exact hk
      · simp at f f1
        subst f
        simp [f1] at hk
        exact hk
      · simp at f
        rw [if_neg (by simp [f])] at hk
        exact hk
    · rw [beq_eq_false_iff_ne] at d
      rw [if_neg (fun q => d q.1)] at hk
      exact ⟨s, osL op, ⟨rfl, rfl⟩, ⟨rfl, rfl⟩, ⟨by omega, by omega⟩, hk⟩
  · exact hk.elim
def cVOps := addC 49 kVOps cVImm
theorem okVOps : Sound env cVOps := sound_add sVOps (okVImm)

def kVImm25 (xs : List IV) (h : Heap) (K : IV → Heap → Prop) : Prop := match xs with
  | [.vslice none e0 n0 3 c0, .agg [.int .i64 25, .int .i64 im, .vslice none e1 n1 1 c1]] => ∃ (l : List Nd) (ks : List Int), (n0 = l.length ∧ c0 = l.flatMap cN) ∧ (n1 = ks.length ∧ c1 = ks.map (IV.int .i64)) ∧ (∃ q : Int, ks = [q] ∧ (0 ≤ q ∧ q < l.length) ∧ 3 ≤ (l.getD q.toNat default).ks.length ∧ (l.getD q.toNat default).ks.length ≤ 33) ∧ K (.bool (decide (0 ≤ im ∧ 2 * im + 3 ≤ (l.getD (ks.getD 0 0).toNat default).ks.length))) h
  | _ => False
set_option maxRecDepth 100000 in
theorem vVImm25 (l : List Nd) (im : Int) (ks : List Int) (e0 e1 : Nat) (h : Heap) (Q : IV → Heap → Prop) : dF (stdS cVOps) env 50 noU noI noI [.vslice none e0 (l).length 3 ((l).flatMap cN), .agg [.int .i64 25, .int .i64 im, .vslice none e1 ks.length 1 (ks.map (IV.int .i64))]] h Q = (
  needS (pureL [IV.vslice none (0 : Nat) (List.length l) (3 : Nat) (List.flatMap cN l), IV.agg [IV.int IntKind.i64 (25 : Int), IV.int IntKind.i64 im, IV.vslice none (0 : Nat) (List.length ks) (1 : Nat) (List.map (IV.int IntKind.i64) ks)]])
 (needS (true && decide ((0 : Int) < (↑(List.length ks) : Int)))
 (ldIS IntKind.i64 (List.map (IV.int IntKind.i64) ks) (0 : Nat) fun (n0 : Int) =>
 needS (decide ((0 : Int) ≤ n0) && decide (n0 < (↑(List.length l) : Int)))
 (ldVS (1 : Nat) (List.flatMap cN l) (Int.toNat n0 * (3 : Nat) + (2 : Nat)) fun (i1 : Option Nat) (e2 l3 : Nat) (c4 : List IV) =>
 ((1 : Int) ≤ (↑l3 : Int) ∧ (↑l3 : Int) ≤ (1000000 : Int)) ∧ brS (decide (im ≥ (0 : Int))) (Q (IV.bool (decide (im ≤ IntKind.wrap IntKind.i64 (((↑l3 : Int) - (1 : Int)) / (2 : Int) - (1 : Int))))) h) (Q (IV.bool false) h))))) := by kernel_rfl
theorem sVImm25 : ∀ xs h Q, kVImm25 xs h Q → CallW env 50 xs h Q := by
  intro xs h Q hk
  unfold kVImm25 at hk
  split at hk
  · rename_i e0 n0 c0 im e1 n1 c1
    obtain ⟨l, ks, ⟨rfl, rfl⟩, ⟨rfl, rfl⟩, hb, hk⟩ := hk
    refine dF_run (okVOps) (vVImm25 l im ks e0 e1 h Q) ?_
    obtain ⟨q, rfl, hq, h3, h33⟩ := hb
    have hlt : q.toNat < l.length := by omega
    have eE : (l.getD q.toNat default).ks.length = (l[q.toNat]).ks.length := by rw [List.getD_eq_getElem?_getD, List.getElem?_eq_getElem hlt]; rfl
    replace hk := (show Q (.bool (decide (0 ≤ im ∧ 2 * im + 3 ≤ ((l.getD q.toNat default).ks.length : Int)))) h from hk)
    rw [eE] at h3 h33 hk
    refine needS_intro (by simp only [pureL, pureB, pureL_ints, pureL_cN, Bool.and_true]) (needS_intro (by simp) (ldIS_map (l := [q]) (i := 0) (by simp) (needS_intro (by simp; omega) (ldNk hlt rfl ⟨⟨by omega, by omega⟩, ?_⟩))))
    have hw : IntKind.i64.wrap ((((l[q.toNat]).ks.length : Int) - 1) / 2 - 1) = (((l[q.toNat]).ks.length : Int) - 1) / 2 - 1 := IntWalk.i64_in _ (by omega)
    rw [hw]
    refine brS_intro (fun c => ?_) (fun c => ?_)
    · rw [decide_eq_true_eq] at c
      refine q_eq hk ?_
      congr 1
      rw [Bool.eq_iff_iff, decide_eq_true_eq, decide_eq_true_eq]
      omega
    · rw [decide_eq_false_iff_not] at c
      refine q_eq hk ?_
      congr 1
      rw [decide_eq_false_iff_not]
      omega
  · exact hk.elim
def cVImm25 := addC 50 kVImm25 cVOps
theorem okVImm25 : Sound env cVImm25 := sound_add sVImm25 (okVOps)

def kVImmG (xs : List IV) (h : Heap) (K : IV → Heap → Prop) : Prop := match xs with
  | [.vslice none e0 n0 3 c0, .agg [.int .i64 op, .int .i64 im, .vslice none e1 n1 1 c1]] => ∃ (l : List Nd) (ks : List Int), (n0 = l.length ∧ c0 = l.flatMap cN) ∧ (n1 = ks.length ∧ c1 = ks.map (IV.int .i64)) ∧ (op = 25 → ∃ q : Int, ks = [q] ∧ (0 ≤ q ∧ q < l.length) ∧ 3 ≤ (l.getD q.toNat default).ks.length ∧ (l.getD q.toNat default).ks.length ≤ 33) ∧ K (.bool (vImmG (eK l ⟨op, im, ks⟩) op im)) h
  | _ => False
theorem sVImmG : ∀ xs h Q, kVImmG xs h Q → CallW env 50 xs h Q := by
  intro xs h Q hk
  unfold kVImmG at hk
  split at hk
  · rename_i e0 n0 c0 op im e1 n1 c1
    obtain ⟨l, ks, ⟨rfl, rfl⟩, ⟨rfl, rfl⟩, hb, hk⟩ := hk
    unfold vImmG at hk
    by_cases o25 : op = 25
    · subst o25
      rw [if_pos rfl] at hk
      exact sVImm25 _ _ _ ⟨l, ks, ⟨rfl, rfl⟩, ⟨rfl, rfl⟩, hb rfl, hk⟩
    · rw [if_neg o25] at hk
      exact sVImm _ _ _ ⟨l, ks, ⟨rfl, rfl⟩, ⟨rfl, rfl⟩, o25, hk⟩
  · exact hk.elim
def cVImmG := addC 50 kVImmG cVImm25
theorem okVImmG : Sound env cVImmG := sound_add sVImmG (okVImm25)

def kVOps31 (xs : List IV) (h : Heap) (K : IV → Heap → Prop) : Prop := match xs with
  | [.agg [.int .i64 31, .int .i64 im, .vslice none e1 n1 1 c1], .vslice none e2 n2 1 c2] => ∃ (ks s : List Int), (n1 = ks.length ∧ c1 = ks.map (IV.int .i64)) ∧ (n2 = s.length ∧ c2 = s.map (IV.int .i64)) ∧ s.length ≤ 1000000 ∧ K (.bool (lsOk s)) h
  | _ => False
set_option maxRecDepth 100000 in
theorem vVOps31 (im : Int) (ks s : List Int) (e1 e2 : Nat) (h : Heap) (Q : IV → Heap → Prop) : dF (stdS cVImmG) env 49 noU noI noI [.agg [.int .i64 31, .int .i64 im, .vslice none e1 ks.length 1 (ks.map (IV.int .i64))], .vslice none e2 (s).length 1 ((s).map (IV.int .i64))] h Q = (
  needS
 (pureL
 [IV.agg [IV.int IntKind.i64 (31 : Int), IV.int IntKind.i64 im, IV.vslice none (0 : Nat) (List.length ks) (1 : Nat) (List.map (IV.int IntKind.i64) ks)],
 IV.vslice none (0 : Nat) (List.length s) (1 : Nat) (List.map (IV.int IntKind.i64) s)])
 (brS (decide ((↑(List.length s) : Int) ≥ (3 : Int)))
 (brS (Int.tmod (↑(List.length s) : Int) (2 : Int) == (1 : Int))
 (((1 : Int) ≤ (↑(List.length s) : Int) ∧ (↑(List.length s) : Int) ≤ (1000000 : Int)) ∧
 brS (decide (((↑(List.length s) : Int) - (1 : Int)) / (2 : Int) ≤ (16 : Int)))
 (∃ (m : Nat),
 ((1 : Nat) ≤ m ∧ m ≤ (16 : Nat)) ∧
 (↑(List.length s) : Int) = (2 : Int) * (↑m : Int) + (1 : Int) ∧
 ∀ (w : List Int),
 w = (2 : Int) :: (List.replicate m (1 : Int) ++ (2 : Int) :: List.replicate (m - (1 : Nat)) (1 : Int)) →
 ∃ (s_1 : List Int),
 ∃ (w_1 : List Int),
 (List.length s = List.length s_1 ∧ List.map (IV.int IntKind.i64) s = List.map (IV.int IntKind.i64) s_1) ∧
 (List.length w = List.length w_1 ∧ List.map (IV.int IntKind.i64) w = List.map (IV.int IntKind.i64) w_1) ∧
 (List.length s_1 ≤ List.length w_1 ∧ List.length s_1 ≤ (1000000000 : Nat)) ∧ Q (IV.bool (decide (s_1 = List.take (List.length s_1) w_1))) h)
 (Q (IV.bool false) h))
 (Q (IV.bool false) h))
 (Q (IV.bool false) h))) := by kernel_rfl
theorem sVOps31 : ∀ xs h Q, kVOps31 xs h Q → CallW env 49 xs h Q := by
  intro xs h Q hk
  unfold kVOps31 at hk
  split at hk
  · rename_i im e1 n1 c1 e2 n2 c2
    obtain ⟨ks, s, ⟨rfl, rfl⟩, ⟨rfl, rfl⟩, hl, hk⟩ := hk
    refine dF_run (okVImmG) (vVOps31 im ks s e1 e2 h Q) ?_
    have hz : ¬ lsOk s = true → Q (.bool false) h := fun e => by
      rw [Bool.not_eq_true] at e
      rw [e] at hk
      exact hk
    have ho := fun q : lsOk s = true => lsOk_odd q
    refine needS_intro (by simp only [pureL, pureB, pureL_ints, Bool.and_true]) (brS_intro (fun c1 => ?_) (fun c => hz (fun q => by rw [decide_eq_false_iff_not] at c; have := ho q; omega)))
    rw [decide_eq_true_eq] at c1
    rw [Int.tmod_eq_emod_of_nonneg (by omega)]
    refine brS_intro (fun c2 => ⟨⟨by omega, by omega⟩, ?_⟩) (fun c => hz (fun q => by rw [beq_eq_false_iff_ne] at c; have := ho q; omega))
    rw [beq_iff_eq] at c2
    refine brS_intro (fun c3 => ?_) (fun c => hz (fun q => by rw [decide_eq_false_iff_not] at c; have := ho q; omega))
    rw [decide_eq_true_eq] at c3
    refine ⟨s.length / 2, ⟨by omega, by omega⟩, by omega, fun w hw0 => ?_⟩
    have hw : w = lsL (s.length / 2) := hw0
    have hl2 : w.length = s.length := by rw [hw, lsL_len (by omega)]; omega
    refine ⟨s, w, ⟨rfl, rfl⟩, ⟨rfl, rfl⟩, ⟨by omega, by omega⟩, q_eq hk ?_⟩
    congr 1
    rw [List.take_of_length_le (by omega), hw, Bool.eq_iff_iff, decide_eq_true_eq]
    exact ⟨fun q => (ho q).2.2.2, fun q => by unfold lsOk; simp only [Bool.and_eq_true, decide_eq_true_eq]; exact ⟨by omega, by omega, by omega, q⟩⟩
  · exact hk.elim
def cVOps31 := addC 49 kVOps31 cVImmG
theorem okVOps31 : Sound env cVOps31 := sound_add sVOps31 (okVImmG)

def kVOps25 (xs : List IV) (h : Heap) (K : IV → Heap → Prop) : Prop := match xs with
  | [.agg [.int .i64 25, .int .i64 im, .vslice none e1 n1 1 c1], .vslice none e2 n2 1 c2] => ∃ (ks s : List Int), (n1 = ks.length ∧ c1 = ks.map (IV.int .i64)) ∧ (n2 = s.length ∧ c2 = s.map (IV.int .i64)) ∧ s.length ≤ 1000000 ∧ K (.bool (decide (s = [3]))) h
  | _ => False
set_option maxRecDepth 100000 in
theorem vVOps25 (im : Int) (ks s : List Int) (e1 e2 : Nat) (h : Heap) (Q : IV → Heap → Prop) : dF (stdS cVOps31) env 49 noU noI noI [.agg [.int .i64 25, .int .i64 im, .vslice none e1 ks.length 1 (ks.map (IV.int .i64))], .vslice none e2 (s).length 1 ((s).map (IV.int .i64))] h Q = (
  needS
 (pureL
 [IV.agg [IV.int IntKind.i64 (25 : Int), IV.int IntKind.i64 im, IV.vslice none (0 : Nat) (List.length ks) (1 : Nat) (List.map (IV.int IntKind.i64) ks)],
 IV.vslice none (0 : Nat) (List.length s) (1 : Nat) (List.map (IV.int IntKind.i64) s)])
 (brS ((1 : Int) != (↑(List.length s) : Int)) (Q (IV.bool false) h)
 (∃ (s_1 : List Int),
 ∃ (w : List Int),
 (List.length s = List.length s_1 ∧ List.map (IV.int IntKind.i64) s = List.map (IV.int IntKind.i64) s_1) ∧
 ((1 : Nat) = List.length w ∧ [IV.int IntKind.i64 (3 : Int)] = List.map (IV.int IntKind.i64) w) ∧
 (List.length s_1 ≤ List.length w ∧ List.length s_1 ≤ (1000000000 : Nat)) ∧ Q (IV.bool (decide (s_1 = List.take (List.length s_1) w))) h))) := by kernel_rfl
theorem sVOps25 : ∀ xs h Q, kVOps25 xs h Q → CallW env 49 xs h Q := by
  intro xs h Q hk
  unfold kVOps25 at hk
  split at hk
  · rename_i im e1 n1 c1 e2 n2 c2
    obtain ⟨ks, s, ⟨rfl, rfl⟩, ⟨rfl, rfl⟩, hl, hk⟩ := hk
    refine dF_run (okVOps31) (vVOps25 im ks s e1 e2 h Q) ?_
    refine needS_intro (by simp only [pureL, pureB, pureL_ints, Bool.and_true]) (brS_intro (fun c => ?_) (fun c => ?_))
    · rw [decide_eq_false (fun e => by rw [e] at c; simp at c)] at hk
      exact hk
    · rw [bne_eq_false_iff_eq] at c
      have hl1 : s.length = 1 := by omega
      refine ⟨s, [3], ⟨rfl, rfl⟩, ⟨rfl, rfl⟩, ⟨by simp [hl1], by omega⟩, ?_⟩
      rw [hl1]
      exact hk
  · exact hk.elim
def cVOps25 := addC 49 kVOps25 cVOps31
theorem okVOps25 : Sound env cVOps25 := sound_add sVOps25 (okVOps31)

def kVOpsG (xs : List IV) (h : Heap) (K : IV → Heap → Prop) : Prop := match xs with
  | [.agg [.int .i64 op, .int .i64 im, .vslice none e1 n1 1 c1], .vslice none e2 n2 1 c2] => ∃ (ks s : List Int), (n1 = ks.length ∧ c1 = ks.map (IV.int .i64)) ∧ (n2 = s.length ∧ c2 = s.map (IV.int .i64)) ∧ (op ≠ 30 ∧ True ∧ s.length ≤ 1000000) ∧ K (.bool (vOpsG op s)) h
  | _ => False
theorem sVOpsG : ∀ xs h Q, kVOpsG xs h Q → CallW env 49 xs h Q := by
  intro xs h Q hk
  unfold kVOpsG at hk
  split at hk
  · rename_i op im e1 n1 c1 e2 n2 c2
    obtain ⟨ks, s, ⟨rfl, rfl⟩, ⟨rfl, rfl⟩, ⟨h30, _, hl⟩, hk⟩ := hk
    unfold vOpsG at hk
    by_cases o31 : op = 31
    · subst o31
      rw [if_pos rfl] at hk
      exact sVOps31 _ _ _ ⟨ks, s, ⟨rfl, rfl⟩, ⟨rfl, rfl⟩, hl, hk⟩
    rw [if_neg o31] at hk
    by_cases o25 : op = 25
    · subst o25
      rw [if_pos rfl] at hk
      exact sVOps25 _ _ _ ⟨ks, s, ⟨rfl, rfl⟩, ⟨rfl, rfl⟩, hl, hk⟩
    rw [if_neg o25] at hk
    exact sVOps _ _ _ ⟨ks, s, ⟨rfl, rfl⟩, ⟨rfl, rfl⟩, ⟨⟨o25, h30, o31⟩, hl⟩, hk⟩
  · exact hk.elim
def cVOpsG := addC 49 kVOpsG cVOps25
theorem okVOpsG : Sound env cVOpsG := sound_add sVOpsG (okVOps25)

def sfInv (l : List Nd) (i e0 id : Nat) (k0 : List Int) (h : Heap) : Inv' := .or
  (atX (Nat × Nd) (fun x => [(0, .v (.vslice none e0 (l).length 3 ((l).flatMap cN))), (1, .v (.int .i64 i)), (2, .v (.hslice id 0 k0.length 1)), (7, .l 7 0), (16, .v (.vslice none 0 (x.2.ks).length 1 ((x.2.ks).map (IV.int .i64)))), (17, .v (.int .i64 x.2.ks.length)), (18, .v (.int .i64 x.1)), (8, .v .nilslice)]) (fun x => [(7, [.int .i64 x.2.op, .int .i64 x.2.im, .vslice none 0 (x.2.ks).length 1 ((x.2.ks).map (IV.int .i64))])]) (fun _ => h) (fun x => l[i]? = some x.2 ∧ x.1 = 0) (fun x => x.2.ks.length - x.1))
  (atX (Nat × Nd × List Int × Nat × Heap) (fun x => [(0, .v (.vslice none e0 (l).length 3 ((l).flatMap cN))), (1, .v (.int .i64 i)), (2, .v (.hslice id 0 k0.length 1)), (7, .l 7 0), (16, .v (.vslice none 0 (x.2.1.ks).length 1 ((x.2.1.ks).map (IV.int .i64)))), (17, .v (.int .i64 x.2.1.ks.length)), (18, .v (.int .i64 x.1)), (8, .v (.vslice (some x.2.2.2.1) x.2.2.1.length x.2.2.1.length 1 (x.2.2.1.map (IV.int .i64))))]) (fun x => [(7, [.int .i64 x.2.1.op, .int .i64 x.2.1.im, .vslice none 0 (x.2.1.ks).length 1 ((x.2.1.ks).map (IV.int .i64))])]) (fun x => x.2.2.2.2) (fun x => l[i]? = some x.2.1 ∧ SIG l i x.1 x.2.2.1 ∧ (0 < x.1 ∧ x.2.2.2.2.get x.2.2.2.1 = .tip x.2.2.1.length ∧ x.2.2.2.1 ≠ id) ∧ (x.2.2.2.2.get id = h.get id ∧ h.next ≤ x.2.2.2.2.next)) (fun x => x.2.1.ks.length - x.1))
def kSOf (xs : List IV) (h : Heap) (K : IV → Heap → Prop) : Prop := match xs with
  | [.vslice none e0 n0 3 c0, .int .i64 q, .hslice id 0 n2 1] => ∃ (l : List Nd) (i : Nat) (k0 : List Int), (n0 = l.length ∧ c0 = l.flatMap cN ∧ q = (i : Int) ∧ n2 = k0.length) ∧ SPG h id l i k0 ∧ ∀ h2 : Heap, h2.get id = h.get id ∧ h.next ≤ h2.next → K (.int .i64 (sstepG (l.take i) (sortsG (l.take i)) (l.getD i default))) h2
  | _ => False
set_option maxRecDepth 100000 in
theorem vSOf (l : List Nd) (i : Nat) (e0 id : Nat) (k0 : List Int) (h : Heap) (Q : IV → Heap → Prop) : dF (stdS cVOpsG) env 39 noU (ic1 5 (sfInv l i e0 id k0 h)) noI [.vslice none e0 (l).length 3 ((l).flatMap cN), .int .i64 i, .hslice id 0 k0.length 1] h Q = (
  needS (decide ((0 : Int) ≤ (↑i : Int)) && decide ((↑i : Int) < (↑(List.length l) : Int)))
 (ldIS IntKind.i64 (List.flatMap cN l) (Int.toNat (↑i : Int) * (3 : Nat)) fun (n0 : Int) =>
 ldIS IntKind.i64 (List.flatMap cN l) (Int.toNat (↑i : Int) * (3 : Nat) + (1 : Nat)) fun (n1 : Int) =>
 ldVS (1 : Nat) (List.flatMap cN l) (Int.toNat (↑i : Int) * (3 : Nat) + (1 : Nat) + (1 : Nat)) fun (i2 : Option Nat) (e3 l4 : Nat) (c5 : List IV) =>
 ((∃ (x : Nat × Nd),
 some (TV.v (IV.vslice none e0 (List.length l) (3 : Nat) (List.flatMap cN l))) = some (TV.v (IV.vslice none e0 (List.length l) (3 : Nat) (List.flatMap cN l))) ∧
 some (TV.v (IV.int IntKind.i64 (↑i : Int))) = some (TV.v (IV.int IntKind.i64 (↑i : Int))) ∧
 some (TV.v (IV.hslice id (0 : Nat) (List.length k0) (1 : Nat))) = some (TV.v (IV.hslice id (0 : Nat) (List.length k0) (1 : Nat))) ∧
 some (TV.l (7 : Nat) (0 : Nat)) = some (TV.l (7 : Nat) (0 : Nat)) ∧
 some (TV.v (IV.vslice i2 e3 l4 (1 : Nat) c5)) = some (TV.v (IV.vslice none (0 : Nat) (List.length (Nd.ks (Prod.snd x))) (1 : Nat) (List.map (IV.int IntKind.i64) (Nd.ks (Prod.snd x))))) ∧
 some (TV.v (IV.int IntKind.i64 (↑l4 : Int))) = some (TV.v (IV.int IntKind.i64 (↑(List.length (Nd.ks (Prod.snd x))) : Int))) ∧
 some (TV.v (IV.int IntKind.i64 (0 : Int))) = some (TV.v (IV.int IntKind.i64 (↑(Prod.fst x) : Int))) ∧
 some (TV.v IV.nilslice) = some (TV.v IV.nilslice) ∧
 some [IV.int IntKind.i64 n0, IV.int IntKind.i64 n1, IV.vslice i2 e3 l4 (1 : Nat) c5] =
 some
 [IV.int IntKind.i64 (Nd.op (Prod.snd x)), IV.int IntKind.i64 (Nd.im (Prod.snd x)),
 IV.vslice none (0 : Nat) (List.length (Nd.ks (Prod.snd x))) (1 : Nat) (List.map (IV.int IntKind.i64) (Nd.ks (Prod.snd x)))] ∧
 h = h ∧ (l[i]? = some (Prod.snd x) ∧ Prod.fst x = (0 : Nat)) ∧ True) ∨
 ∃ (x : Nat × Nd × List Int × Nat × Heap),
 some (TV.v (IV.vslice none e0 (List.length l) (3 : Nat) (List.flatMap cN l))) = some (TV.v (IV.vslice none e0 (List.length l) (3 : Nat) (List.flatMap cN l))) ∧
 some (TV.v (IV.int IntKind.i64 (↑i : Int))) = some (TV.v (IV.int IntKind.i64 (↑i : Int))) ∧
 some (TV.v (IV.hslice id (0 : Nat) (List.length k0) (1 : Nat))) = some (TV.v (IV.hslice id (0 : Nat) (List.length k0) (1 : Nat))) ∧
 some (TV.l (7 : Nat) (0 : Nat)) = some (TV.l (7 : Nat) (0 : Nat)) ∧
 some (TV.v (IV.vslice i2 e3 l4 (1 : Nat) c5)) = some (TV.v (IV.vslice none (0 : Nat) (List.length (Nd.ks (Prod.fst (Prod.snd x)))) (1 : Nat) (List.map (IV.int IntKind.i64) (Nd.ks (Prod.fst (Prod.snd x)))))) ∧
 some (TV.v (IV.int IntKind.i64 (↑l4 : Int))) = some (TV.v (IV.int IntKind.i64 (↑(List.length (Nd.ks (Prod.fst (Prod.snd x)))) : Int))) ∧
 some (TV.v (IV.int IntKind.i64 (0 : Int))) = some (TV.v (IV.int IntKind.i64 (↑(Prod.fst x) : Int))) ∧
 some (TV.v IV.nilslice) =
 some
 (TV.v
 (IV.vslice (some (Prod.fst (Prod.snd (Prod.snd (Prod.snd x))))) (List.length (Prod.fst (Prod.snd (Prod.snd x)))) (List.length (Prod.fst (Prod.snd (Prod.snd x)))) (1 : Nat)
 (List.map (IV.int IntKind.i64) (Prod.fst (Prod.snd (Prod.snd x)))))) ∧
 some [IV.int IntKind.i64 n0, IV.int IntKind.i64 n1, IV.vslice i2 e3 l4 (1 : Nat) c5] =
 some
 [IV.int IntKind.i64 (Nd.op (Prod.fst (Prod.snd x))), IV.int IntKind.i64 (Nd.im (Prod.fst (Prod.snd x))),
 IV.vslice none (0 : Nat) (List.length (Nd.ks (Prod.fst (Prod.snd x)))) (1 : Nat) (List.map (IV.int IntKind.i64) (Nd.ks (Prod.fst (Prod.snd x))))] ∧
 h = Prod.snd (Prod.snd (Prod.snd (Prod.snd x))) ∧
 (l[i]? = some (Prod.fst (Prod.snd x)) ∧
 SIG l i (Prod.fst x) (Prod.fst (Prod.snd (Prod.snd x))) ∧
 ((0 : Nat) < Prod.fst x ∧
 Heap.get (Prod.snd (Prod.snd (Prod.snd (Prod.snd x)))) (Prod.fst (Prod.snd (Prod.snd (Prod.snd x)))) = IObj.tip (List.length (Prod.fst (Prod.snd (Prod.snd x)))) ∧
 Prod.fst (Prod.snd (Prod.snd (Prod.snd x))) ≠ id) ∧
 Heap.get (Prod.snd (Prod.snd (Prod.snd (Prod.snd x)))) id = Heap.get h id ∧ Heap.next h ≤ Heap.next (Prod.snd (Prod.snd (Prod.snd (Prod.snd x))))) ∧
 True) ∧
 (∀ (x : Nat × Nd) (b : FF),
 l[i]? = some (Prod.snd x) ∧ Prod.fst x = (0 : Nat) →
 brS (decide ((↑(Prod.fst x) : Int) < (↑(List.length (Nd.ks (Prod.snd x))) : Int)))
 (needS (decide ((0 : Int) ≤ (↑(Prod.fst x) : Int)) && decide ((↑(Prod.fst x) : Int) < (↑(List.length (Nd.ks (Prod.snd x))) : Int)))
 (ldIS IntKind.i64 (List.map (IV.int IntKind.i64) (Nd.ks (Prod.snd x))) (Int.toNat (↑(Prod.fst x) : Int) * (1 : Nat)) fun (n6 : Int) =>
 brS (decide (n6 < (0 : Int))) (Q (IV.int IntKind.i64 (0 : Int)) h)
 (brS (decide (n6 ≥ (↑i : Int))) (Q (IV.int IntKind.i64 (0 : Int)) h)
 (needS (decide ((0 : Int) ≤ n6) && decide (n6 < (↑(List.length k0) : Int)))
 (hgetS h id fun (r7 : List IV) =>
 ldIS IntKind.i64 r7 ((0 : Nat) + Int.toNat n6 * (1 : Nat)) fun (n8 : Int) =>
 brS (n8 == (0 : Int)) (Q (IV.int IntKind.i64 (0 : Int)) h)
 (needS (decide ((0 : Int) ≤ n6) && decide (n6 < (↑(List.length k0) : Int)))
 (hgetS h id fun (r9 : List IV) =>
 ldIS IntKind.i64 r9 ((0 : Nat) + Int.toNat n6 * (1 : Nat)) fun (n10 : Int) =>
 (∃ (x_1 : Nat × Nd),
 some (TV.v (IV.vslice none e0 (List.length l) (3 : Nat) (List.flatMap cN l))) = some (TV.v (IV.vslice none e0 (List.length l) (3 : Nat) (List.flatMap cN l))) ∧
 some (TV.v (IV.int IntKind.i64 (↑i : Int))) = some (TV.v (IV.int IntKind.i64 (↑i : Int))) ∧
 some (TV.v (IV.hslice id (0 : Nat) (List.length k0) (1 : Nat))) = some (TV.v (IV.hslice id (0 : Nat) (List.length k0) (1 : Nat))) ∧
 some (TV.l (7 : Nat) (0 : Nat)) = some (TV.l (7 : Nat) (0 : Nat)) ∧
 some (TV.v (IV.vslice none (0 : Nat) (List.length (Nd.ks (Prod.snd x))) (1 : Nat) (List.map (IV.int IntKind.i64) (Nd.ks (Prod.snd x))))) =
 some (TV.v (IV.vslice none (0 : Nat) (List.length (Nd.ks (Prod.snd x_1))) (1 : Nat) (List.map (IV.int IntKind.i64) (Nd.ks (Prod.snd x_1))))) ∧
 some (TV.v (IV.int IntKind.i64 (↑(List.length (Nd.ks (Prod.snd x))) : Int))) = some (TV.v (IV.int IntKind.i64 (↑(List.length (Nd.ks (Prod.snd x_1))) : Int))) ∧
 some (TV.v (IV.int IntKind.i64 (IntKind.wrap IntKind.i64 ((↑(Prod.fst x) : Int) + (1 : Int))))) = some (TV.v (IV.int IntKind.i64 (↑(Prod.fst x_1) : Int))) ∧
 some (TV.v (IV.vslice (some (Heap.next h)) (1 : Nat) (1 : Nat) (1 : Nat) [IV.int IntKind.i64 n10])) = some (TV.v IV.nilslice) ∧
 some
 [IV.int IntKind.i64 (Nd.op (Prod.snd x)), IV.int IntKind.i64 (Nd.im (Prod.snd x)),
 IV.vslice none (0 : Nat) (List.length (Nd.ks (Prod.snd x))) (1 : Nat) (List.map (IV.int IntKind.i64) (Nd.ks (Prod.snd x)))] =
 some
 [IV.int IntKind.i64 (Nd.op (Prod.snd x_1)), IV.int IntKind.i64 (Nd.im (Prod.snd x_1)),
 IV.vslice none (0 : Nat) (List.length (Nd.ks (Prod.snd x_1))) (1 : Nat) (List.map (IV.int IntKind.i64) (Nd.ks (Prod.snd x_1)))] ∧
 Heap.push h (IObj.tip (1 : Nat)) = h ∧
 (l[i]? = some (Prod.snd x_1) ∧ Prod.fst x_1 = (0 : Nat)) ∧ List.length (Nd.ks (Prod.snd x_1)) - Prod.fst x_1 < List.length (Nd.ks (Prod.snd x)) - Prod.fst x) ∨
 ∃ (x_1 : Nat × Nd × List Int × Nat × Heap),
 some (TV.v (IV.vslice none e0 (List.length l) (3 : Nat) (List.flatMap cN l))) = some (TV.v (IV.vslice none e0 (List.length l) (3 : Nat) (List.flatMap cN l))) ∧
 some (TV.v (IV.int IntKind.i64 (↑i : Int))) = some (TV.v (IV.int IntKind.i64 (↑i : Int))) ∧
 some (TV.v (IV.hslice id (0 : Nat) (List.length k0) (1 : Nat))) = some (TV.v (IV.hslice id (0 : Nat) (List.length k0) (1 : Nat))) ∧
 some (TV.l (7 : Nat) (0 : Nat)) = some (TV.l (7 : Nat) (0 : Nat)) ∧
 some (TV.v (IV.vslice none (0 : Nat) (List.length (Nd.ks (Prod.snd x))) (1 : Nat) (List.map (IV.int IntKind.i64) (Nd.ks (Prod.snd x))))) =
 some (TV.v (IV.vslice none (0 : Nat) (List.length (Nd.ks (Prod.fst (Prod.snd x_1)))) (1 : Nat) (List.map (IV.int IntKind.i64) (Nd.ks (Prod.fst (Prod.snd x_1)))))) ∧
 some (TV.v (IV.int IntKind.i64 (↑(List.length (Nd.ks (Prod.snd x))) : Int))) = some (TV.v (IV.int IntKind.i64 (↑(List.length (Nd.ks (Prod.fst (Prod.snd x_1)))) : Int))) ∧
 some (TV.v (IV.int IntKind.i64 (IntKind.wrap IntKind.i64 ((↑(Prod.fst x) : Int) + (1 : Int))))) = some (TV.v (IV.int IntKind.i64 (↑(Prod.fst x_1) : Int))) ∧
 some (TV.v (IV.vslice (some (Heap.next h)) (1 : Nat) (1 : Nat) (1 : Nat) [IV.int IntKind.i64 n10])) =
 some
 (TV.v
 (IV.vslice (some (Prod.fst (Prod.snd (Prod.snd (Prod.snd x_1))))) (List.length (Prod.fst (Prod.snd (Prod.snd x_1)))) (List.length (Prod.fst (Prod.snd (Prod.snd x_1))))
 (1 : Nat) (List.map (IV.int IntKind.i64) (Prod.fst (Prod.snd (Prod.snd x_1)))))) ∧
 some
 [IV.int IntKind.i64 (Nd.op (Prod.snd x)), IV.int IntKind.i64 (Nd.im (Prod.snd x)),
 IV.vslice none (0 : Nat) (List.length (Nd.ks (Prod.snd x))) (1 : Nat) (List.map (IV.int IntKind.i64) (Nd.ks (Prod.snd x)))] =
 some
 [IV.int IntKind.i64 (Nd.op (Prod.fst (Prod.snd x_1))), IV.int IntKind.i64 (Nd.im (Prod.fst (Prod.snd x_1))),
 IV.vslice none (0 : Nat) (List.length (Nd.ks (Prod.fst (Prod.snd x_1)))) (1 : Nat) (List.map (IV.int IntKind.i64) (Nd.ks (Prod.fst (Prod.snd x_1))))] ∧
 Heap.push h (IObj.tip (1 : Nat)) = Prod.snd (Prod.snd (Prod.snd (Prod.snd x_1))) ∧
 (l[i]? = some (Prod.fst (Prod.snd x_1)) ∧
 SIG l i (Prod.fst x_1) (Prod.fst (Prod.snd (Prod.snd x_1))) ∧
 ((0 : Nat) < Prod.fst x_1 ∧
 Heap.get (Prod.snd (Prod.snd (Prod.snd (Prod.snd x_1)))) (Prod.fst (Prod.snd (Prod.snd (Prod.snd x_1)))) =
 IObj.tip (List.length (Prod.fst (Prod.snd (Prod.snd x_1)))) ∧
 Prod.fst (Prod.snd (Prod.snd (Prod.snd x_1))) ≠ id) ∧
 Heap.get (Prod.snd (Prod.snd (Prod.snd (Prod.snd x_1)))) id = Heap.get h id ∧ Heap.next h ≤ Heap.next (Prod.snd (Prod.snd (Prod.snd (Prod.snd x_1))))) ∧
 List.length (Nd.ks (Prod.fst (Prod.snd x_1))) - Prod.fst x_1 < List.length (Nd.ks (Prod.snd x)) - Prod.fst x)))))))
 (∃ (ks : List Int),
 ∃ (s : List Int),
 (List.length (Nd.ks (Prod.snd x)) = List.length ks ∧ List.map (IV.int IntKind.i64) (Nd.ks (Prod.snd x)) = List.map (IV.int IntKind.i64) ks) ∧
 ((0 : Nat) = List.length s ∧ [] = List.map (IV.int IntKind.i64) s) ∧
 (Nd.op (Prod.snd x) ≠ (30 : Int) ∧ True ∧ List.length s ≤ (1000000 : Nat)) ∧
 brS (!vOpsG (Nd.op (Prod.snd x)) s) (Q (IV.int IntKind.i64 (0 : Int)) h)
 (∃ (l_1 : List Nd),
 ∃ (ks : List Int),
 (List.length l = List.length l_1 ∧ List.flatMap cN l = List.flatMap cN l_1) ∧
 (List.length (Nd.ks (Prod.snd x)) = List.length ks ∧ List.map (IV.int IntKind.i64) (Nd.ks (Prod.snd x)) = List.map (IV.int IntKind.i64) ks) ∧
 (Nd.op (Prod.snd x) = (25 : Int) →
 ∃ (q : Int),
 ks = [q] ∧
 ((0 : Int) ≤ q ∧ q < (↑(List.length l_1) : Int)) ∧
 (3 : Nat) ≤ List.length (Nd.ks (List.getD l_1 (Int.toNat q) default)) ∧ List.length (Nd.ks (List.getD l_1 (Int.toNat q) default)) ≤ (33 : Nat)) ∧
 brS (!vImmG (eK l_1 (Nd.mk (Nd.op (Prod.snd x)) (Nd.im (Prod.snd x)) ks)) (Nd.op (Prod.snd x)) (Nd.im (Prod.snd x))) (Q (IV.int IntKind.i64 (0 : Int)) h)
 (brS (Nd.op (Prod.snd x) == (31 : Int)) (Q (IV.int IntKind.i64 (3 : Int)) h)
 (brS (Nd.op (Prod.snd x) == (26 : Int)) (Q (IV.int IntKind.i64 (2 : Int)) h)
 (brS (Nd.op (Prod.snd x) == (27 : Int)) (Q (IV.int IntKind.i64 (2 : Int)) h)
 (brS (Nd.op (Prod.snd x) == (28 : Int)) (Q (IV.int IntKind.i64 (2 : Int)) h)
 (brS (Nd.op (Prod.snd x) == (29 : Int)) (Q (IV.int IntKind.i64 (2 : Int)) h)
 (brS (Nd.op (Prod.snd x) == (30 : Int)) (Q (IV.int IntKind.i64 (2 : Int)) h)
 (brS (Nd.op (Prod.snd x) == (22 : Int)) False
 (brS (Nd.op (Prod.snd x) == (3 : Int)) (brS (Int.tmod (Nd.im (Prod.snd x)) (16 : Int) == (0 : Int)) (Q (IV.int IntKind.i64 (2 : Int)) h) (Q (IV.int IntKind.i64 (1 : Int)) h))
 (brS (Nd.op (Prod.snd x) == (25 : Int)) (brS (Nd.im (Prod.snd x) == (0 : Int)) (Q (IV.int IntKind.i64 (2 : Int)) h) (Q (IV.int IntKind.i64 (1 : Int)) h))
 (Q (IV.int IntKind.i64 (1 : Int)) h))))))))))))) ∧
 ∀ (x : Nat × Nd × List Int × Nat × Heap) (b : FF),
 l[i]? = some (Prod.fst (Prod.snd x)) ∧
 SIG l i (Prod.fst x) (Prod.fst (Prod.snd (Prod.snd x))) ∧
 ((0 : Nat) < Prod.fst x ∧
 Heap.get (Prod.snd (Prod.snd (Prod.snd (Prod.snd x)))) (Prod.fst (Prod.snd (Prod.snd (Prod.snd x)))) = IObj.tip (List.length (Prod.fst (Prod.snd (Prod.snd x)))) ∧ Prod.fst (Prod.snd (Prod.snd (Prod.snd x))) ≠ id) ∧
 Heap.get (Prod.snd (Prod.snd (Prod.snd (Prod.snd x)))) id = Heap.get h id ∧ Heap.next h ≤ Heap.next (Prod.snd (Prod.snd (Prod.snd (Prod.snd x)))) →
 brS (decide ((↑(Prod.fst x) : Int) < (↑(List.length (Nd.ks (Prod.fst (Prod.snd x)))) : Int)))
 (needS (decide ((0 : Int) ≤ (↑(Prod.fst x) : Int)) && decide ((↑(Prod.fst x) : Int) < (↑(List.length (Nd.ks (Prod.fst (Prod.snd x)))) : Int)))
 (ldIS IntKind.i64 (List.map (IV.int IntKind.i64) (Nd.ks (Prod.fst (Prod.snd x)))) (Int.toNat (↑(Prod.fst x) : Int) * (1 : Nat)) fun (n11 : Int) =>
 brS (decide (n11 < (0 : Int))) (Q (IV.int IntKind.i64 (0 : Int)) (Prod.snd (Prod.snd (Prod.snd (Prod.snd x)))))
 (brS (decide (n11 ≥ (↑i : Int))) (Q (IV.int IntKind.i64 (0 : Int)) (Prod.snd (Prod.snd (Prod.snd (Prod.snd x)))))
 (needS (decide ((0 : Int) ≤ n11) && decide (n11 < (↑(List.length k0) : Int)))
 (hgetS (Prod.snd (Prod.snd (Prod.snd (Prod.snd x)))) id fun (r12 : List IV) =>
 ldIS IntKind.i64 r12 ((0 : Nat) + Int.toNat n11 * (1 : Nat)) fun (n13 : Int) =>
 brS (n13 == (0 : Int)) (Q (IV.int IntKind.i64 (0 : Int)) (Prod.snd (Prod.snd (Prod.snd (Prod.snd x)))))
 (needS (decide ((0 : Int) ≤ n11) && decide (n11 < (↑(List.length k0) : Int)))
 (hgetS (Prod.snd (Prod.snd (Prod.snd (Prod.snd x)))) id fun (r14 : List IV) =>
 ldIS IntKind.i64 r14 ((0 : Nat) + Int.toNat n11 * (1 : Nat)) fun (n15 : Int) =>
 tipS (Prod.snd (Prod.snd (Prod.snd (Prod.snd x)))) (Prod.fst (Prod.snd (Prod.snd (Prod.snd x)))) fun (m16 : Nat) =>
 needS (Nat.beq m16 (List.length (Prod.fst (Prod.snd (Prod.snd x)))) && Nat.ble ((List.length (Prod.fst (Prod.snd (Prod.snd x))) + (1 : Nat)) * (8 : Nat)) (140737488355328 : Nat))
 ((∃ (x_1 : Nat × Nd),
 some (TV.v (IV.vslice none e0 (List.length l) (3 : Nat) (List.flatMap cN l))) = some (TV.v (IV.vslice none e0 (List.length l) (3 : Nat) (List.flatMap cN l))) ∧
 some (TV.v (IV.int IntKind.i64 (↑i : Int))) = some (TV.v (IV.int IntKind.i64 (↑i : Int))) ∧
 some (TV.v (IV.hslice id (0 : Nat) (List.length k0) (1 : Nat))) = some (TV.v (IV.hslice id (0 : Nat) (List.length k0) (1 : Nat))) ∧
 some (TV.l (7 : Nat) (0 : Nat)) = some (TV.l (7 : Nat) (0 : Nat)) ∧
 some (TV.v (IV.vslice none (0 : Nat) (List.length (Nd.ks (Prod.fst (Prod.snd x)))) (1 : Nat) (List.map (IV.int IntKind.i64) (Nd.ks (Prod.fst (Prod.snd x)))))) =
 some (TV.v (IV.vslice none (0 : Nat) (List.length (Nd.ks (Prod.snd x_1))) (1 : Nat) (List.map (IV.int IntKind.i64) (Nd.ks (Prod.snd x_1))))) ∧
 some (TV.v (IV.int IntKind.i64 (↑(List.length (Nd.ks (Prod.fst (Prod.snd x)))) : Int))) = some (TV.v (IV.int IntKind.i64 (↑(List.length (Nd.ks (Prod.snd x_1))) : Int))) ∧
 some (TV.v (IV.int IntKind.i64 (IntKind.wrap IntKind.i64 ((↑(Prod.fst x) : Int) + (1 : Int))))) = some (TV.v (IV.int IntKind.i64 (↑(Prod.fst x_1) : Int))) ∧
 some
 (TV.v
 (IV.vslice (some (Prod.fst (Prod.snd (Prod.snd (Prod.snd x))))) (List.length (Prod.fst (Prod.snd (Prod.snd x))) + (1 : Nat))
 (List.length (Prod.fst (Prod.snd (Prod.snd x))) + (1 : Nat)) (1 : Nat)
 (List.map (IV.int IntKind.i64) (Prod.fst (Prod.snd (Prod.snd x))) ++ [IV.int IntKind.i64 n15]))) =
 some (TV.v IV.nilslice) ∧
 some
 [IV.int IntKind.i64 (Nd.op (Prod.fst (Prod.snd x))), IV.int IntKind.i64 (Nd.im (Prod.fst (Prod.snd x))),
 IV.vslice none (0 : Nat) (List.length (Nd.ks (Prod.fst (Prod.snd x)))) (1 : Nat) (List.map (IV.int IntKind.i64) (Nd.ks (Prod.fst (Prod.snd x))))] =
 some
 [IV.int IntKind.i64 (Nd.op (Prod.snd x_1)), IV.int IntKind.i64 (Nd.im (Prod.snd x_1)),
 IV.vslice none (0 : Nat) (List.length (Nd.ks (Prod.snd x_1))) (1 : Nat) (List.map (IV.int IntKind.i64) (Nd.ks (Prod.snd x_1)))] ∧
 Heap.set (Prod.snd (Prod.snd (Prod.snd (Prod.snd x)))) (Prod.fst (Prod.snd (Prod.snd (Prod.snd x)))) (IObj.tip (List.length (Prod.fst (Prod.snd (Prod.snd x))) + (1 : Nat))) =
 h ∧
 (l[i]? = some (Prod.snd x_1) ∧ Prod.fst x_1 = (0 : Nat)) ∧ List.length (Nd.ks (Prod.snd x_1)) - Prod.fst x_1 < List.length (Nd.ks (Prod.fst (Prod.snd x))) - Prod.fst x) ∨
 ∃ (x_1 : Nat × Nd × List Int × Nat × Heap),
 some (TV.v (IV.vslice none e0 (List.length l) (3 : Nat) (List.flatMap cN l))) = some (TV.v (IV.vslice none e0 (List.length l) (3 : Nat) (List.flatMap cN l))) ∧
 some (TV.v (IV.int IntKind.i64 (↑i : Int))) = some (TV.v (IV.int IntKind.i64 (↑i : Int))) ∧
 some (TV.v (IV.hslice id (0 : Nat) (List.length k0) (1 : Nat))) = some (TV.v (IV.hslice id (0 : Nat) (List.length k0) (1 : Nat))) ∧
 some (TV.l (7 : Nat) (0 : Nat)) = some (TV.l (7 : Nat) (0 : Nat)) ∧
 some (TV.v (IV.vslice none (0 : Nat) (List.length (Nd.ks (Prod.fst (Prod.snd x)))) (1 : Nat) (List.map (IV.int IntKind.i64) (Nd.ks (Prod.fst (Prod.snd x)))))) =
 some (TV.v (IV.vslice none (0 : Nat) (List.length (Nd.ks (Prod.fst (Prod.snd x_1)))) (1 : Nat) (List.map (IV.int IntKind.i64) (Nd.ks (Prod.fst (Prod.snd x_1)))))) ∧
 some (TV.v (IV.int IntKind.i64 (↑(List.length (Nd.ks (Prod.fst (Prod.snd x)))) : Int))) = some (TV.v (IV.int IntKind.i64 (↑(List.length (Nd.ks (Prod.fst (Prod.snd x_1)))) : Int))) ∧
 some (TV.v (IV.int IntKind.i64 (IntKind.wrap IntKind.i64 ((↑(Prod.fst x) : Int) + (1 : Int))))) = some (TV.v (IV.int IntKind.i64 (↑(Prod.fst x_1) : Int))) ∧
 some
 (TV.v
 (IV.vslice (some (Prod.fst (Prod.snd (Prod.snd (Prod.snd x))))) (List.length (Prod.fst (Prod.snd (Prod.snd x))) + (1 : Nat))
 (List.length (Prod.fst (Prod.snd (Prod.snd x))) + (1 : Nat)) (1 : Nat)
 (List.map (IV.int IntKind.i64) (Prod.fst (Prod.snd (Prod.snd x))) ++ [IV.int IntKind.i64 n15]))) =
 some
 (TV.v
 (IV.vslice (some (Prod.fst (Prod.snd (Prod.snd (Prod.snd x_1))))) (List.length (Prod.fst (Prod.snd (Prod.snd x_1)))) (List.length (Prod.fst (Prod.snd (Prod.snd x_1))))
 (1 : Nat) (List.map (IV.int IntKind.i64) (Prod.fst (Prod.snd (Prod.snd x_1)))))) ∧
 some
 [IV.int IntKind.i64 (Nd.op (Prod.fst (Prod.snd x))), IV.int IntKind.i64 (Nd.im (Prod.fst (Prod.snd x))),
 IV.vslice none (0 : Nat) (List.length (Nd.ks (Prod.fst (Prod.snd x)))) (1 : Nat) (List.map (IV.int IntKind.i64) (Nd.ks (Prod.fst (Prod.snd x))))] =
 some
 [IV.int IntKind.i64 (Nd.op (Prod.fst (Prod.snd x_1))), IV.int IntKind.i64 (Nd.im (Prod.fst (Prod.snd x_1))),
 IV.vslice none (0 : Nat) (List.length (Nd.ks (Prod.fst (Prod.snd x_1)))) (1 : Nat) (List.map (IV.int IntKind.i64) (Nd.ks (Prod.fst (Prod.snd x_1))))] ∧
 Heap.set (Prod.snd (Prod.snd (Prod.snd (Prod.snd x)))) (Prod.fst (Prod.snd (Prod.snd (Prod.snd x)))) (IObj.tip (List.length (Prod.fst (Prod.snd (Prod.snd x))) + (1 : Nat))) =
 Prod.snd (Prod.snd (Prod.snd (Prod.snd x_1))) ∧
 (l[i]? = some (Prod.fst (Prod.snd x_1)) ∧
 SIG l i (Prod.fst x_1) (Prod.fst (Prod.snd (Prod.snd x_1))) ∧
 ((0 : Nat) < Prod.fst x_1 ∧
 Heap.get (Prod.snd (Prod.snd (Prod.snd (Prod.snd x_1)))) (Prod.fst (Prod.snd (Prod.snd (Prod.snd x_1)))) =
 IObj.tip (List.length (Prod.fst (Prod.snd (Prod.snd x_1)))) ∧
 Prod.fst (Prod.snd (Prod.snd (Prod.snd x_1))) ≠ id) ∧
 Heap.get (Prod.snd (Prod.snd (Prod.snd (Prod.snd x_1)))) id = Heap.get h id ∧ Heap.next h ≤ Heap.next (Prod.snd (Prod.snd (Prod.snd (Prod.snd x_1))))) ∧
 List.length (Nd.ks (Prod.fst (Prod.snd x_1))) - Prod.fst x_1 < List.length (Nd.ks (Prod.fst (Prod.snd x))) - Prod.fst x))))))))
 (∃ (ks : List Int),
 ∃ (s : List Int),
 (List.length (Nd.ks (Prod.fst (Prod.snd x))) = List.length ks ∧ List.map (IV.int IntKind.i64) (Nd.ks (Prod.fst (Prod.snd x))) = List.map (IV.int IntKind.i64) ks) ∧
 (List.length (Prod.fst (Prod.snd (Prod.snd x))) = List.length s ∧ List.map (IV.int IntKind.i64) (Prod.fst (Prod.snd (Prod.snd x))) = List.map (IV.int IntKind.i64) s) ∧
 (Nd.op (Prod.fst (Prod.snd x)) ≠ (30 : Int) ∧ True ∧ List.length s ≤ (1000000 : Nat)) ∧
 brS (!vOpsG (Nd.op (Prod.fst (Prod.snd x))) s) (Q (IV.int IntKind.i64 (0 : Int)) (Prod.snd (Prod.snd (Prod.snd (Prod.snd x)))))
 (∃ (l_1 : List Nd),
 ∃ (ks : List Int),
 (List.length l = List.length l_1 ∧ List.flatMap cN l = List.flatMap cN l_1) ∧
 (List.length (Nd.ks (Prod.fst (Prod.snd x))) = List.length ks ∧ List.map (IV.int IntKind.i64) (Nd.ks (Prod.fst (Prod.snd x))) = List.map (IV.int IntKind.i64) ks) ∧
 (Nd.op (Prod.fst (Prod.snd x)) = (25 : Int) →
 ∃ (q : Int),
 ks = [q] ∧
 ((0 : Int) ≤ q ∧ q < (↑(List.length l_1) : Int)) ∧
 (3 : Nat) ≤ List.length (Nd.ks (List.getD l_1 (Int.toNat q) default)) ∧ List.length (Nd.ks (List.getD l_1 (Int.toNat q) default)) ≤ (33 : Nat)) ∧
 brS (!vImmG (eK l_1 (Nd.mk (Nd.op (Prod.fst (Prod.snd x))) (Nd.im (Prod.fst (Prod.snd x))) ks)) (Nd.op (Prod.fst (Prod.snd x))) (Nd.im (Prod.fst (Prod.snd x))))
 (Q (IV.int IntKind.i64 (0 : Int)) (Prod.snd (Prod.snd (Prod.snd (Prod.snd x)))))
 (brS (Nd.op (Prod.fst (Prod.snd x)) == (31 : Int)) (Q (IV.int IntKind.i64 (3 : Int)) (Prod.snd (Prod.snd (Prod.snd (Prod.snd x)))))
 (brS (Nd.op (Prod.fst (Prod.snd x)) == (26 : Int)) (Q (IV.int IntKind.i64 (2 : Int)) (Prod.snd (Prod.snd (Prod.snd (Prod.snd x)))))
 (brS (Nd.op (Prod.fst (Prod.snd x)) == (27 : Int)) (Q (IV.int IntKind.i64 (2 : Int)) (Prod.snd (Prod.snd (Prod.snd (Prod.snd x)))))
 (brS (Nd.op (Prod.fst (Prod.snd x)) == (28 : Int)) (Q (IV.int IntKind.i64 (2 : Int)) (Prod.snd (Prod.snd (Prod.snd (Prod.snd x)))))
 (brS (Nd.op (Prod.fst (Prod.snd x)) == (29 : Int)) (Q (IV.int IntKind.i64 (2 : Int)) (Prod.snd (Prod.snd (Prod.snd (Prod.snd x)))))
 (brS (Nd.op (Prod.fst (Prod.snd x)) == (30 : Int)) (Q (IV.int IntKind.i64 (2 : Int)) (Prod.snd (Prod.snd (Prod.snd (Prod.snd x)))))
 (brS (Nd.op (Prod.fst (Prod.snd x)) == (22 : Int))
 (needS (true && decide ((1 : Int) < (↑(List.length (Prod.fst (Prod.snd (Prod.snd x)))) : Int)))
 (ldIS IntKind.i64 (List.map (IV.int IntKind.i64) (Prod.fst (Prod.snd (Prod.snd x)))) (1 : Nat) fun (n17 : Int) =>
 Q (IV.int IntKind.i64 n17) (Prod.snd (Prod.snd (Prod.snd (Prod.snd x))))))
 (brS (Nd.op (Prod.fst (Prod.snd x)) == (3 : Int))
 (brS (Int.tmod (Nd.im (Prod.fst (Prod.snd x))) (16 : Int) == (0 : Int)) (Q (IV.int IntKind.i64 (2 : Int)) (Prod.snd (Prod.snd (Prod.snd (Prod.snd x)))))
 (Q (IV.int IntKind.i64 (1 : Int)) (Prod.snd (Prod.snd (Prod.snd (Prod.snd x))))))
 (brS (Nd.op (Prod.fst (Prod.snd x)) == (25 : Int))
 (brS (Nd.im (Prod.fst (Prod.snd x)) == (0 : Int)) (Q (IV.int IntKind.i64 (2 : Int)) (Prod.snd (Prod.snd (Prod.snd (Prod.snd x)))))
 (Q (IV.int IntKind.i64 (1 : Int)) (Prod.snd (Prod.snd (Prod.snd (Prod.snd x))))))
 (Q (IV.int IntKind.i64 (1 : Int)) (Prod.snd (Prod.snd (Prod.snd (Prod.snd x)))))))))))))))))) := by kernel_rfl
set_option maxHeartbeats 2000000 in
theorem sSOf : ∀ xs h Q, kSOf xs h Q → CallW env 39 xs h Q := by
  intro xs h Q hk
  unfold kSOf at hk
  split at hk
  · rename_i e0 n0 c0 q id n2
    obtain ⟨l, i, k0, ⟨rfl, rfl, rfl, rfl⟩, hb, hk⟩ := hk
    refine dF_run (okVOpsG) (vSOf l i e0 id k0 h Q) ?_
    have tn : ∀ x : Nat, (x : Int).toNat = x := Int.toNat_natCast
    obtain ⟨⟨hi, hops, hll⟩, hg, hid, hkl, hkt⟩ := hb
    have hop := (hops _ (List.getElem_mem hi)).2
    have hks := (hops _ (List.getElem_mem hi)).1
    have eD : l.getD i default = l[i] := by rw [List.getD_eq_getElem?_getD, List.getElem?_eq_getElem hi]; rfl
    rw [eD] at hk
    have fin : ∀ (v : Int) (h2 : Heap), v = sstepG (l.take i) (sortsG (l.take i)) l[i] → h2.get id = h.get id ∧ h.next ≤ h2.next → Q (.int .i64 v) h2 := by
      rintro _ h2 rfl e
      exact hk h2 e
    have hsl : (sortsG (l.take i)).length = i := by rw [sortsG_len, List.length_take]; omega
    have hk0 : ∀ q, (hq : q < i) → ∃ h2 : q < k0.length, ∃ h3 : q < (sortsG (l.take i)).length, k0[q] = (sortsG (l.take i))[q] := fun q hq => by
      refine ⟨by omega, by omega, ?_⟩
      have e : (k0.take i)[q]? = (sortsG (l.take i))[q]? := by rw [hkt]
      rw [List.getElem?_take_of_lt hq, List.getElem?_eq_getElem (by omega), List.getElem?_eq_getElem (by omega), Option.some.injEq] at e
      exact e
    have tail := fun (k : List Int) (h : SIG l i l[i].ks.length k) => Go.M10.SIG.fin h hi (Nat.le_refl _) hop
    refine needS_intro (by simp; omega) (ldNd hi (by rw [tn]) ⟨.inl ⟨(0, l[i]), (by first | rfl | exact True.intro), (by first | rfl | exact True.intro), (by first | rfl | exact True.intro), (by first | rfl | exact True.intro), (by first | rfl | exact True.intro), (by first | rfl | exact True.intro), (by first | rfl | exact True.intro), (by first | rfl | exact True.intro), (by first | rfl | exact True.intro), (by first | rfl | exact True.intro), ⟨List.getElem?_eq_getElem hi, rfl⟩, trivial⟩, ?_, ?_⟩)
    · rintro ⟨j, n⟩ _ ⟨hn, hj⟩
      dsimp only at hn hj ⊢
      obtain rfl : l[i] = n := by rw [List.getElem?_eq_getElem hi] at hn; exact Option.some.inj hn
      subst hj
      refine brS_intro (fun c => ?_) (fun c => ?_)
      · rw [decide_eq_true_eq] at c
        have hlt : 0 < l[i].ks.length := by omega
        have hm : l[i].ks[0] ∈ l[i].ks := List.getElem_mem hlt
        refine needS_intro (by simp; omega) (ldI1 hlt rfl (brS_intro (fun c2 => ?_) (fun c2 => brS_intro (fun c3 => ?_) (fun c3 => ?_))))
        · rw [decide_eq_true_eq] at c2
          exact fin _ _ (sstepG_bad hm (kidOk_neg c2)).symm ⟨rfl, Nat.le_refl _⟩
        · rw [decide_eq_true_eq] at c3
          exact fin _ _ (sstepG_bad hm (kidOk_big (by omega))).symm ⟨rfl, Nat.le_refl _⟩
        rw [decide_eq_false_iff_not] at c2 c3
        obtain ⟨q1, q2, q3⟩ := hk0 (l[i].ks[0]).toNat (by omega)
        refine needS_intro (by simp; omega) (hget_intro hg (ldI1 q1 (by omega) (brS_intro (fun c4 => ?_) (fun c4 => ?_))))
        · rw [beq_iff_eq, q3] at c4
          exact fin _ _ (sstepG_bad hm (kidOk_zero q2 c4)).symm ⟨rfl, Nat.le_refl _⟩
        rw [beq_eq_false_iff_ne, q3] at c4
        obtain ⟨k1, k2⟩ := kidOk_intro (by omega) q2 c4
        have hs := (SIG.zero hi).step hi hlt k1
        rw [k2] at hs
        refine needS_intro (by simp; omega) (hget_intro hg (ldI1 q1 (by omega) (.inr ⟨(1, l[i], [(sortsG (l.take i))[(l[i].ks[0]).toNat]], h.next, h.push (.tip 1)), (by first | rfl | exact True.intro), (by first | rfl | exact True.intro), (by first | rfl | exact True.intro), (by first | rfl | exact True.intro), (by first | rfl | exact True.intro), (by first | rfl | exact True.intro), (by first | rfl | exact True.intro), (by rw [q3]; rfl), (by first | rfl | exact True.intro), (by first | rfl | exact True.intro), ⟨hn, hs, ⟨Nat.one_pos, get_push_eq, Nat.ne_of_gt hid⟩, get_push_lt hid, Nat.le_succ _⟩, by dsimp only; omega⟩)))
      · rw [decide_eq_false_iff_not] at c
        have hz : l[i].ks.length = 0 := by omega
        obtain ⟨t1, t2⟩ := tail [] (by rw [hz]; exact SIG.zero hi)
        refine ⟨l[i].ks, [], ⟨rfl, rfl⟩, ⟨rfl, rfl⟩, ⟨hop, trivial, by simp⟩, ?_⟩
        refine brS_intro (fun c1 => fin _ _ ?_ ⟨rfl, Nat.le_refl _⟩) (fun c1 => ⟨l, l[i].ks, ⟨rfl, rfl⟩, ⟨rfl, rfl⟩, t2.2 (by simpa using c1), brS_intro (fun c2 => fin _ _ ?_ ⟨rfl, Nat.le_refl _⟩) (fun c2 => ?_)⟩)
        · rw [Bool.not_eq_true'] at c1
          rw [t1, if_neg (fun e => by rw [c1] at e; exact Bool.false_ne_true e.1)]
        · rw [Bool.not_eq_true'] at c2
          rw [t1, if_neg (fun e => by rw [c2] at e; exact Bool.false_ne_true e.2)]
        rw [Bool.not_eq_false'] at c1 c2
        rw [if_pos ⟨c1, c2⟩] at t1
        have rest : ∀ {a o : Int}, (a == o) = false → ¬ a = o := fun c => by simpa using c
        have sv0 : ∀ v : Int, svoG l[i].op l[i].im [] = v → Q (.int .i64 v) h := fun v e => fin v _ (by rw [t1, e]) ⟨rfl, Nat.le_refl _⟩
        have sv : l[i].op ≠ 31 → l[i].op ≠ 25 → ∀ v : Int, svo l[i].op l[i].im [] = v → Q (.int .i64 v) h := fun h1 h2 v e => sv0 v (by unfold svoG; rw [if_neg h1, if_neg h2]; exact e)
        refine brS_intro (fun d => sv0 3 (if_pos (beq_iff_eq.1 d))) (fun d31 => ?_)
        by_cases o25 : l[i].op = 25
        · simp only [o25]
          refine brS_intro (fun d => absurd d (by decide)) (fun _ => brS_intro (fun d => absurd d (by decide)) (fun _ => brS_intro (fun d => absurd d (by decide)) (fun _ => brS_intro (fun d => absurd d (by decide)) (fun _ => brS_intro (fun d => absurd d (by decide)) (fun _ => brS_intro (fun d => absurd d (by decide)) (fun _ => brS_intro (fun d => absurd d (by decide)) (fun _ => brS_intro (fun _ => ?_) (fun d => absurd d (by decide)))))))))
          refine brS_intro (fun e => sv0 2 ?_) (fun e => sv0 1 ?_)
          · unfold svoG; rw [o25, if_neg (by decide), if_pos rfl, if_pos (beq_iff_eq.1 e)]
          · unfold svoG; rw [o25, if_neg (by decide), if_pos rfl, if_neg (rest e)]
        replace sv := sv (rest d31) o25
        unfold svo at sv
        refine brS_intro (fun d => sv _ (if_pos (.inl (beq_iff_eq.1 d)))) (fun d2 => brS_intro (fun d => sv _ (if_pos (.inr (.inl (beq_iff_eq.1 d))))) (fun d3 => brS_intro (fun d => sv _ (if_pos (.inr (.inr (.inl (beq_iff_eq.1 d)))))) (fun d4 => brS_intro (fun d => sv _ (if_pos (.inr (.inr (.inr (beq_iff_eq.1 d)))))) (fun d5 => brS_intro (fun d => absurd (beq_iff_eq.1 d) hop) (fun d6 => ?_)))))
        have nn : ¬ (l[i].op = 26 ∨ l[i].op = 27 ∨ l[i].op = 28 ∨ l[i].op = 29) := by
          have := rest d2; have := rest d3; have := rest d4; have := rest d5
          omega
        rw [if_neg nn] at sv
        refine brS_intro (fun d => ?_) (fun d7 => brS_intro (fun d => ?_) (fun d8 => brS_intro (fun d => absurd (beq_iff_eq.1 d) o25) (fun _ => sv _ (by rw [if_neg (rest d7), if_neg (rest d8)]))))
        · rw [beq_iff_eq] at d
          have h3 : vOps 22 [] = false := by decide
          unfold vOpsG at c1
          rw [d, if_neg (by decide), if_neg (by decide), h3] at c1
          cases c1
        · rw [if_neg (rest d7), if_pos (beq_iff_eq.1 d)] at sv
          refine brS_intro (fun e => sv _ (if_pos (beq_iff_eq.1 e))) (fun e => sv _ (if_neg (rest e)))
    · rintro ⟨j, n, k, idK, g⟩ _ ⟨hn, hsi, ⟨hj0, hgk, hne⟩, hgi⟩
      dsimp only at hn hsi hj0 hgk hne hgi ⊢
      obtain rfl : l[i] = n := by rw [List.getElem?_eq_getElem hi] at hn; exact Option.some.inj hn
      have hkj : k.length = j ∧ j ≤ l[i].ks.length := by
        obtain ⟨n, h1, h2, _⟩ := hsi
        rw [hn] at h1
        cases h1
        exact ⟨h2.2, h2.1⟩
      have hg2 : g.get id = .cells (k0.map (IV.int .i64)) := hgi.1.trans hg
      refine brS_intro (fun c => ?_) (fun c => ?_)
      · rw [decide_eq_true_eq] at c
        have hlt : j < l[i].ks.length := by omega
        have hm : l[i].ks[j] ∈ l[i].ks := List.getElem_mem hlt
        refine needS_intro (by simp; omega) (ldI1 hlt (by rw [Nat.mul_one, tn]) (brS_intro (fun c2 => ?_) (fun c2 => brS_intro (fun c3 => ?_) (fun c3 => ?_))))
        · rw [decide_eq_true_eq] at c2
          exact fin _ _ (sstepG_bad hm (kidOk_neg c2)).symm hgi
        · rw [decide_eq_true_eq] at c3
          exact fin _ _ (sstepG_bad hm (kidOk_big (by omega))).symm hgi
        rw [decide_eq_false_iff_not] at c2 c3
        obtain ⟨q1, q2, q3⟩ := hk0 (l[i].ks[j]).toNat (by omega)
        refine needS_intro (by simp; omega) (hget_intro hg2 (ldI1 q1 (by omega) (brS_intro (fun c4 => ?_) (fun c4 => ?_))))
        · rw [beq_iff_eq, q3] at c4
          exact fin _ _ (sstepG_bad hm (kidOk_zero q2 c4)).symm hgi
        rw [beq_eq_false_iff_ne, q3] at c4
        obtain ⟨k1, k2⟩ := kidOk_intro (by omega) q2 c4
        have hs := hsi.step hi hlt k1
        rw [k2] at hs
        refine needS_intro (by simp; omega) (hget_intro hg2 (ldI1 q1 (by omega) (tip_intro hgk (needS_intro (by simp only [Bool.and_eq_true, nbeq_t, Nat.ble_eq, true_and]; omega) (.inr ⟨(j + 1, l[i], k ++ [(sortsG (l.take i))[(l[i].ks[j]).toNat]], idK, g.set idK (.tip (k.length + 1))), (by first | rfl | exact True.intro), (by first | rfl | exact True.intro), (by first | rfl | exact True.intro), (by first | rfl | exact True.intro), (by first | rfl | exact True.intro), (by first | rfl | exact True.intro), ?_, ?_, (by first | rfl | exact True.intro), ?_, ⟨hn, hs, ⟨Nat.succ_pos _, by rw [get_set_eq]; simp, hne⟩, by rw [get_set_ne hne.symm]; exact hgi.1, hgi.2⟩, by dsimp only; omega⟩)))))
        · rw [IntWalk.i64_in _ (by omega)]; rfl
        · rw [q3]; simp
        · rfl
      · rw [decide_eq_false_iff_not] at c
        obtain rfl : j = l[i].ks.length := by omega
        obtain ⟨t1, t2⟩ := tail k hsi
        refine ⟨l[i].ks, k, ⟨rfl, rfl⟩, ⟨rfl, rfl⟩, ⟨hop, trivial, by omega⟩, ?_⟩
        refine brS_intro (fun c1 => fin _ _ ?_ hgi) (fun c1 => ⟨l, l[i].ks, ⟨rfl, rfl⟩, ⟨rfl, rfl⟩, t2.2 (by simpa using c1), brS_intro (fun c2 => fin _ _ ?_ hgi) (fun c2 => ?_)⟩)
        · rw [Bool.not_eq_true'] at c1
          rw [t1, if_neg (fun e => by rw [c1] at e; exact Bool.false_ne_true e.1)]
        · rw [Bool.not_eq_true'] at c2
          rw [t1, if_neg (fun e => by rw [c2] at e; exact Bool.false_ne_true e.2)]
        rw [Bool.not_eq_false'] at c1 c2
        rw [if_pos ⟨c1, c2⟩] at t1
        have rest : ∀ {a o : Int}, (a == o) = false → ¬ a = o := fun c => by simpa using c
        have sv0 : ∀ v : Int, svoG l[i].op l[i].im k = v → Q (.int .i64 v) g := fun v e => fin v _ (by rw [t1, e]) hgi
        have sv : l[i].op ≠ 31 → l[i].op ≠ 25 → ∀ v : Int, svo l[i].op l[i].im k = v → Q (.int .i64 v) g := fun h1 h2 v e => sv0 v (by unfold svoG; rw [if_neg h1, if_neg h2]; exact e)
        refine brS_intro (fun d => sv0 3 (if_pos (beq_iff_eq.1 d))) (fun d31 => ?_)
        by_cases o25 : l[i].op = 25
        · simp only [o25]
          refine brS_intro (fun d => absurd d (by decide)) (fun _ => brS_intro (fun d => absurd d (by decide)) (fun _ => brS_intro (fun d => absurd d (by decide)) (fun _ => brS_intro (fun d => absurd d (by decide)) (fun _ => brS_intro (fun d => absurd d (by decide)) (fun _ => brS_intro (fun d => absurd d (by decide)) (fun _ => brS_intro (fun d => absurd d (by decide)) (fun _ => brS_intro (fun _ => ?_) (fun d => absurd d (by decide)))))))))
          refine brS_intro (fun e => sv0 2 ?_) (fun e => sv0 1 ?_)
          · unfold svoG; rw [o25, if_neg (by decide), if_pos rfl, if_pos (beq_iff_eq.1 e)]
          · unfold svoG; rw [o25, if_neg (by decide), if_pos rfl, if_neg (rest e)]
        replace sv := sv (rest d31) o25
        unfold svo at sv
        refine brS_intro (fun d => sv _ (if_pos (.inl (beq_iff_eq.1 d)))) (fun d2 => brS_intro (fun d => sv _ (if_pos (.inr (.inl (beq_iff_eq.1 d))))) (fun d3 => brS_intro (fun d => sv _ (if_pos (.inr (.inr (.inl (beq_iff_eq.1 d)))))) (fun d4 => brS_intro (fun d => sv _ (if_pos (.inr (.inr (.inr (beq_iff_eq.1 d)))))) (fun d5 => brS_intro (fun d => absurd (beq_iff_eq.1 d) hop) (fun d6 => ?_)))))
        have nn : ¬ (l[i].op = 26 ∨ l[i].op = 27 ∨ l[i].op = 28 ∨ l[i].op = 29) := by
          have := rest d2; have := rest d3; have := rest d4; have := rest d5
          omega
        rw [if_neg nn] at sv
        refine brS_intro (fun d => ?_) (fun d7 => brS_intro (fun d => ?_) (fun d8 => brS_intro (fun d => absurd (beq_iff_eq.1 d) o25) (fun _ => sv _ (by rw [if_neg (rest d7), if_neg (rest d8)]))))
        · rw [beq_iff_eq] at d
          rw [if_pos d] at sv
          have hlen : (k.length : Int) = ar l[i].op := by
            unfold vOpsG at c1
            rw [d, if_neg (by decide), if_neg (by decide)] at c1
            unfold vOps at c1
            rw [← d] at c1
            simp only [Bool.and_eq_true, decide_eq_true_eq] at c1
            exact c1.2.1
          have h22 : ar 22 = 3 := by decide
          rw [d, h22] at hlen
          have hlt : 1 < k.length := by omega
          refine needS_intro (by simp; omega) (ldI1 hlt (by omega) (sv _ ?_))
          rw [List.getD_eq_getElem?_getD, List.getElem?_eq_getElem hlt]
          rfl
        · rw [if_neg (rest d7), if_pos (beq_iff_eq.1 d)] at sv
          refine brS_intro (fun e => sv _ (if_pos (beq_iff_eq.1 e))) (fun e => sv _ (if_neg (rest e)))
  · exact hk.elim
def cSOf := addC 39 kSOf cVOpsG
theorem okSOf : Sound env cSOf := sound_add sSOf (okVOpsG)

def isInv (l : List Nd) (e1 : Nat) : Inv' := atX (Nat × Nat × Heap × List Int) (fun x => [(0, .v (.vslice none e1 (l).length 3 ((l).flatMap cN))), (3, .v (.hslice x.2.1 0 l.length 1)), (9, .v (.int .i64 l.length)), (10, .v (.int .i64 x.1))]) (fun _ => []) (fun x => x.2.2.1)
  (fun x => x.1 ≤ l.length ∧ x.2.2.1.get x.2.1 = .cells (x.2.2.2.map (IV.int .i64)) ∧ x.2.2.2.length = l.length ∧ x.2.1 < x.2.2.1.next ∧ x.2.2.2.take x.1 = sortsG (l.take x.1)) (fun x => l.length - x.1)
def kISorts (xs : List IV) (h : Heap) (K : IV → Heap → Prop) : Prop := match xs with
  | [.vslice none e1 n1 3 c1] => ∃ l : List Nd, (n1 = l.length ∧ c1 = l.flatMap cN) ∧ ((∀ x ∈ l, x.ks.length ≤ 1000000 ∧ x.op ≠ 30) ∧ l.length ≤ 1000000) ∧ ∀ (h2 : Heap) (id : Nat), h2.get id = .cells ((sortsG l).map (IV.int .i64)) → K (.hslice id 0 l.length 1) h2
  | _ => False
set_option maxRecDepth 100000 in
theorem vISorts (l : List Nd) (e1 : Nat) (h : Heap) (Q : IV → Heap → Prop) : dF (stdS cSOf) env 28 noU (ic1 4 (isInv l e1)) noI [.vslice none e1 (l).length 3 ((l).flatMap cN)] h Q = (
  needS
 (decide ((0 : Int) ≤ (↑(List.length l) : Int)) &&
 (decide ((↑(List.length l) : Int) ≤ (↑(List.length l) : Int)) && (decide ((↑(List.length l) : Int) ≤ (9223372036854775807 : Int)) && decide ((8 : Int) * (↑(List.length l) : Int) ≤ (140737488355328 : Int)))))
 ((∃ (x : Nat × Nat × Heap × List Int),
 some (TV.v (IV.vslice none e1 (List.length l) (3 : Nat) (List.flatMap cN l))) = some (TV.v (IV.vslice none e1 (List.length l) (3 : Nat) (List.flatMap cN l))) ∧
 some (TV.v (IV.hslice (Heap.next h) (0 : Nat) (Int.toNat (↑(List.length l) : Int)) (1 : Nat))) = some (TV.v (IV.hslice (Prod.fst (Prod.snd x)) (0 : Nat) (List.length l) (1 : Nat))) ∧
 some (TV.v (IV.int IntKind.i64 (↑(List.length l) : Int))) = some (TV.v (IV.int IntKind.i64 (↑(List.length l) : Int))) ∧
 some (TV.v (IV.int IntKind.i64 (0 : Int))) = some (TV.v (IV.int IntKind.i64 (↑(Prod.fst x) : Int))) ∧
 Heap.push h (IObj.cells (repl (Int.toNat (↑(List.length l) : Int)) [IV.int IntKind.i64 (0 : Int)])) = Prod.fst (Prod.snd (Prod.snd x)) ∧
 (Prod.fst x ≤ List.length l ∧
 Heap.get (Prod.fst (Prod.snd (Prod.snd x))) (Prod.fst (Prod.snd x)) = IObj.cells (List.map (IV.int IntKind.i64) (Prod.snd (Prod.snd (Prod.snd x)))) ∧
 List.length (Prod.snd (Prod.snd (Prod.snd x))) = List.length l ∧
 Prod.fst (Prod.snd x) < Heap.next (Prod.fst (Prod.snd (Prod.snd x))) ∧ List.take (Prod.fst x) (Prod.snd (Prod.snd (Prod.snd x))) = sortsG (List.take (Prod.fst x) l)) ∧
 True) ∧
 ∀ (x : Nat × Nat × Heap × List Int) (b : FF),
 Prod.fst x ≤ List.length l ∧
 Heap.get (Prod.fst (Prod.snd (Prod.snd x))) (Prod.fst (Prod.snd x)) = IObj.cells (List.map (IV.int IntKind.i64) (Prod.snd (Prod.snd (Prod.snd x)))) ∧
 List.length (Prod.snd (Prod.snd (Prod.snd x))) = List.length l ∧
 Prod.fst (Prod.snd x) < Heap.next (Prod.fst (Prod.snd (Prod.snd x))) ∧ List.take (Prod.fst x) (Prod.snd (Prod.snd (Prod.snd x))) = sortsG (List.take (Prod.fst x) l) →
 brS (decide ((↑(Prod.fst x) : Int) < (↑(List.length l) : Int)))
 (∃ (l_1 : List Nd),
 ∃ (i : Nat),
 ∃ (k0 : List Int),
 (List.length l = List.length l_1 ∧ List.flatMap cN l = List.flatMap cN l_1 ∧ (↑(Prod.fst x) : Int) = (↑i : Int) ∧ List.length l = List.length k0) ∧
 SPG (Prod.fst (Prod.snd (Prod.snd x))) (Prod.fst (Prod.snd x)) l_1 i k0 ∧
 ∀ (h2 : Heap),
 Heap.get h2 (Prod.fst (Prod.snd x)) = Heap.get (Prod.fst (Prod.snd (Prod.snd x))) (Prod.fst (Prod.snd x)) ∧ Heap.next (Prod.fst (Prod.snd (Prod.snd x))) ≤ Heap.next h2 →
 needS (decide ((0 : Int) ≤ (↑(Prod.fst x) : Int)) && decide ((↑(Prod.fst x) : Int) < (↑(List.length l) : Int)))
 (hgetS h2 (Prod.fst (Prod.snd x)) fun (r0 : List IV) =>
 needS (Nat.ble ((0 : Nat) + Int.toNat (↑(Prod.fst x) : Int) * (1 : Nat) + (1 : Nat)) (List.length r0))
 (∃ (x_1 : Nat × Nat × Heap × List Int),
 some (TV.v (IV.vslice none e1 (List.length l) (3 : Nat) (List.flatMap cN l))) = some (TV.v (IV.vslice none e1 (List.length l) (3 : Nat) (List.flatMap cN l))) ∧
 some (TV.v (IV.hslice (Prod.fst (Prod.snd x)) (0 : Nat) (List.length l) (1 : Nat))) = some (TV.v (IV.hslice (Prod.fst (Prod.snd x_1)) (0 : Nat) (List.length l) (1 : Nat))) ∧
 some (TV.v (IV.int IntKind.i64 (↑(List.length l) : Int))) = some (TV.v (IV.int IntKind.i64 (↑(List.length l) : Int))) ∧
 some (TV.v (IV.int IntKind.i64 (IntKind.wrap IntKind.i64 ((↑(Prod.fst x) : Int) + (1 : Int))))) = some (TV.v (IV.int IntKind.i64 (↑(Prod.fst x_1) : Int))) ∧
 Heap.set h2 (Prod.fst (Prod.snd x))
 (IObj.cells
 (List.take ((0 : Nat) + Int.toNat (↑(Prod.fst x) : Int) * (1 : Nat)) r0 ++ [IV.int IntKind.i64 (sstepG (List.take i l_1) (sortsG (List.take i l_1)) (List.getD l_1 i default))] ++
 List.drop ((0 : Nat) + Int.toNat (↑(Prod.fst x) : Int) * (1 : Nat) + (1 : Nat)) r0)) =
 Prod.fst (Prod.snd (Prod.snd x_1)) ∧
 (Prod.fst x_1 ≤ List.length l ∧
 Heap.get (Prod.fst (Prod.snd (Prod.snd x_1))) (Prod.fst (Prod.snd x_1)) = IObj.cells (List.map (IV.int IntKind.i64) (Prod.snd (Prod.snd (Prod.snd x_1)))) ∧
 List.length (Prod.snd (Prod.snd (Prod.snd x_1))) = List.length l ∧
 Prod.fst (Prod.snd x_1) < Heap.next (Prod.fst (Prod.snd (Prod.snd x_1))) ∧ List.take (Prod.fst x_1) (Prod.snd (Prod.snd (Prod.snd x_1))) = sortsG (List.take (Prod.fst x_1) l)) ∧
 List.length l - Prod.fst x_1 < List.length l - Prod.fst x)))
 (Q (IV.hslice (Prod.fst (Prod.snd x)) (0 : Nat) (List.length l) (1 : Nat)) (Prod.fst (Prod.snd (Prod.snd x)))))) := by kernel_rfl
set_option maxHeartbeats 2000000 in
theorem sISorts : ∀ xs h Q, kISorts xs h Q → CallW env 28 xs h Q := by
  intro xs h Q hk
  unfold kISorts at hk
  split at hk
  · rename_i e1 n1 c1
    obtain ⟨l, ⟨rfl, rfl⟩, hb, hk⟩ := hk
    refine dF_run (okSOf) (vISorts l e1 h Q) ?_
    have tn : ∀ x : Nat, (x : Int).toNat = x := Int.toNat_natCast
    obtain ⟨hops, hll⟩ := hb
    refine needS_intro (by simp; omega) ⟨⟨(0, h.next, h.push (.cells (repl (l.length : Int).toNat [.int .i64 0])), List.replicate l.length 0), (by first | rfl | exact True.intro), (by rw [tn]), (by first | rfl | exact True.intro), (by first | rfl | exact True.intro), (by first | rfl | exact True.intro), ⟨Nat.zero_le _, (by rw [get_push_eq, tn, repl_zero]), by simp, Nat.lt_succ_self _, rfl⟩, trivial⟩, ?_⟩
    rintro ⟨i, id, g, k0⟩ _ ⟨hi, hg, hkl, hid, hkt⟩
    dsimp only at hi hg hkl hid hkt ⊢
    refine brS_intro (fun c => ?_) (fun c => ?_)
    · rw [decide_eq_true_eq] at c
      have hlt : i < l.length := by omega
      refine ⟨l, i, k0, ⟨rfl, rfl, rfl, hkl.symm⟩, ⟨⟨hlt, hops, hll⟩, hg, hid, hkl, hkt⟩, fun h2 ⟨e2, n2⟩ => needS_intro (by simp; omega) (hget_intro (e2.trans hg) (needS_intro (by rw [Nat.ble_eq]; simp; omega) ?_))⟩
      have eD : l.getD i default = l[i] := by rw [List.getD_eq_getElem?_getD, List.getElem?_eq_getElem hlt]; rfl
      rw [eD]
      have hv : (k0.map (IV.int .i64)).take (0 + (i : Int).toNat * 1) ++ [.int .i64 (sstepG (l.take i) (sortsG (l.take i)) l[i])] ++ (k0.map (IV.int .i64)).drop (0 + (i : Int).toNat * 1 + 1) = (k0.take i ++ [sstepG (l.take i) (sortsG (l.take i)) l[i]] ++ k0.drop (i + 1)).map (IV.int .i64) := by
        rw [tn, Nat.zero_add, Nat.mul_one]
        simp
      have h1 : (k0.take i).length = i := by rw [List.length_take]; omega
      refine ⟨(i + 1, id, h2.set id (.cells ((k0.take i ++ [sstepG (l.take i) (sortsG (l.take i)) l[i]] ++ k0.drop (i + 1)).map (IV.int .i64))), k0.take i ++ [sstepG (l.take i) (sortsG (l.take i)) l[i]] ++ k0.drop (i + 1)), (by first | rfl | exact True.intro), (by first | rfl | exact True.intro), (by first | rfl | exact True.intro), ?_, ?_, ⟨hlt, get_set_eq, ?_, Nat.lt_of_lt_of_le hid n2, ?_⟩, by dsimp only; omega⟩
      · rw [IntWalk.i64_in _ (by omega)]; rfl
      · rw [hv]
      · simp; omega
      · rw [sortsG_step hlt, ← hkt]
        dsimp only
        rw [List.take_append_of_le_length (by simp; omega), List.take_of_length_le (by simp; omega)]
    · rw [decide_eq_false_iff_not] at c
      obtain rfl : i = l.length := by omega
      rw [List.take_of_length_le (by omega), List.take_length] at hkt
      subst hkt
      exact hk g id hg
  · exact hk.elim
def cISorts := addC 28 kISorts cSOf
theorem okISorts : Sound env cISorts := sound_add sISorts (okSOf)

def kISort (xs : List IV) (h : Heap) (K : IV → Heap → Prop) : Prop := match xs with
  | [.vslice none e1 n1 3 c1, .int .i64 i] => ∃ l : List Nd, (n1 = l.length ∧ c1 = l.flatMap cN) ∧ ((∀ x ∈ l, x.ks.length ≤ 1000000 ∧ x.op ≠ 30) ∧ l.length ≤ 1000000 ∧ 0 ≤ i ∧ i < l.length) ∧ K (.int .i64 ((sortsG l).getD i.toNat 0)) h
  | _ => False
set_option maxRecDepth 100000 in
theorem vISort (l : List Nd) (i : Int) (e1 : Nat) (h : Heap) (Q : IV → Heap → Prop) : dF (stdS cISorts) env 20 noU noI noI [.vslice none e1 (l).length 3 ((l).flatMap cN), .int .i64 i] h Q = (
  needS (pureL [IV.vslice none (0 : Nat) (List.length l) (3 : Nat) (List.flatMap cN l), IV.int IntKind.i64 i])
 (brS (decide (i < (0 : Int))) (Q (IV.int IntKind.i64 (0 : Int)) h)
 (brS (decide (i ≥ (↑(List.length l) : Int))) (Q (IV.int IntKind.i64 (0 : Int)) h)
 (needS (true && (decide ((0 : Int) ≤ IntKind.wrap IntKind.i64 (i + (1 : Int))) && decide (IntKind.wrap IntKind.i64 (i + (1 : Int)) ≤ (↑(List.length l) : Int))))
 (∃ (l_1 : List Nd),
 (Int.toNat (IntKind.wrap IntKind.i64 (i + (1 : Int))) - (0 : Nat) = List.length l_1 ∧
 List.take ((Int.toNat (IntKind.wrap IntKind.i64 (i + (1 : Int))) - (0 : Nat)) * (3 : Nat)) (List.drop (0 : Nat) (List.flatMap cN l)) = List.flatMap cN l_1) ∧
 ((∀ (x : Nd), x ∈ l_1 → List.length (Nd.ks x) ≤ (1000000 : Nat) ∧ Nd.op x ≠ (30 : Int)) ∧ List.length l_1 ≤ (1000000 : Nat)) ∧
 ∀ (h2 : Heap) (id : Nat),
 Heap.get h2 id = IObj.cells (List.map (IV.int IntKind.i64) (sortsG l_1)) →
 needS (decide ((0 : Int) ≤ i) && decide (i < (↑(List.length l_1) : Int))) (hgetS h2 id fun (r0 : List IV) => ldIS IntKind.i64 r0 ((0 : Nat) + Int.toNat i * (1 : Nat)) fun (n1 : Int) => Q (IV.int IntKind.i64 n1) h)))))) := by kernel_rfl
set_option maxHeartbeats 1000000 in
theorem sISort : ∀ xs h Q, kISort xs h Q → CallW env 20 xs h Q := by
  intro xs h Q hk
  unfold kISort at hk
  split at hk
  · rename_i e1 n1 c1 i
    obtain ⟨l, ⟨rfl, rfl⟩, hb, hk⟩ := hk
    refine dF_run (okISorts) (vISort l i e1 h Q) ?_
    have tn : ∀ x : Nat, (x : Int).toNat = x := Int.toNat_natCast
    obtain ⟨hb1, hbl, hi0, hi1⟩ := hb
    have hw : IntKind.i64.wrap (i + 1) = i + 1 := IntWalk.i64_in _ (by omega)
    rw [hw]
    have hlt : i.toNat < l.length := by omega
    have e3 : (i + 1).toNat - 0 = i.toNat + 1 := by omega
    refine needS_intro (by simp only [pureL, pureB, pureL_cN, Bool.and_true]) (brS_intro (fun c => absurd (of_decide_eq_true c) (by omega)) (fun _ => brS_intro (fun c => absurd (of_decide_eq_true c) (by omega)) (fun _ => needS_intro (by simp; omega) ⟨l.take (i.toNat + 1), ⟨by rw [e3, List.length_take]; omega, by rw [e3, List.drop_zero, cN_take]⟩, ⟨fun x hx => hb1 x (List.mem_of_mem_take hx), by rw [List.length_take]; omega⟩, fun h2 id hg => ?_⟩)))
    have hq : i.toNat < (sortsG (l.take (i.toNat + 1))).length := by rw [sortsG_len, List.length_take]; omega
    refine needS_intro (by simp; omega) (hget_intro hg (ldI1 hq (by omega) (q_eq hk ?_)))
    congr 1
    rw [pre_getD (sortsG_pre (List.take_prefix (i.toNat + 1) l)) hq, List.getD_eq_getElem?_getD, List.getElem?_eq_getElem hq]
    rfl
  · exact hk.elim
def cISort := addC 20 kISort cISorts
theorem okISort : Sound env cISort := sound_add sISort (okISorts)

end Go.Proofs.Ythoehkkoaegeoaa
