/-
  Machine words: instructions of seeds; lists of instructions compared.
  Conditions: none.
-/
import Derived.Test.YtiecmbfcgjaflaaDoorH30
import Derived.Test.YtiecmbfcgjaflaaDoorR30
import Derived.KernelRfl
set_option linter.unusedVariables false
set_option linter.unusedSimpArgs false
namespace Go.Proofs.YtiecmbfcgjaflaaDoor
open Go.Pv Go.M29 Go.M30
def insInv3 (l : List Int) (m : Int) : Inv' := .or
  (atX Unit (fun _ => [(5, .v .nilslice), (0, .v (.vslice none 0 (l).length 1 ((l).map (IV.int .i64)))), (1, .v (.int .i64 m)), (6, .v (.int .i64 0))]) (fun _ => []) (fun _ => Heap.empty) (fun _ => True) (fun _ => l.length))
  (atX Nat (fun i => [(5, .v (.vslice (some 0) ((insT l i).length * 5) (insT l i).length 5 ((insT l i).flatMap cIns))), (0, .v (.vslice none 0 (l).length 1 ((l).map (IV.int .i64)))), (1, .v (.int .i64 m)), (6, .v (.int .i64 i))]) (fun _ => []) (fun i => ⟨.node .nil (some (.tip ((insT l i).length * 5))) .nil, 1⟩) (fun i => (1 ≤ i ∧ i ≤ l.length) ∧ (i : Int) ≤ m) (fun i => l.length - i))
def kInstrs (xs : List IV) (h : Heap) (K : IV → Heap → Prop) : Prop := match xs with
  | [.vslice none e1 n1 1 c1, .int .i64 m] => ∃ l : List Int, (n1 = l.length ∧ c1 = l.map (IV.int .i64)) ∧ (l.length < 4611686018427387904 ∧ m ≤ 1000000) ∧ K (.vslice none 0 (insK l m).length 5 ((insK l m).flatMap cIns)) h
  | _ => False
set_option maxRecDepth 100000 in
theorem vInstrs (l : List Int) (e1 : Nat) (m : Int) (h : Heap) (Q : IV → Heap → Prop) : dF (stdS cUniqL) env 13 noU (ic1 4 (insInv3 l m)) noI [.vslice none e1 (l).length 1 ((l).map (IV.int .i64)), .int .i64 m] h Q = (
  needS (pureL [IV.vslice none (0 : Nat) (List.length l) (1 : Nat) (List.map (IV.int IntKind.i64) l), IV.int IntKind.i64 m])
    (((∃ (x : Unit),
          some (TV.v IV.nilslice) = some (TV.v IV.nilslice) ∧
            some (TV.v (IV.vslice none (0 : Nat) (List.length l) (1 : Nat) (List.map (IV.int IntKind.i64) l))) = some (TV.v (IV.vslice none (0 : Nat) (List.length l) (1 : Nat) (List.map (IV.int IntKind.i64) l))) ∧
              some (TV.v (IV.int IntKind.i64 m)) = some (TV.v (IV.int IntKind.i64 m)) ∧
                some (TV.v (IV.int IntKind.i64 (0 : Int))) = some (TV.v (IV.int IntKind.i64 (0 : Int))) ∧ Heap.mk PT.nil (0 : Nat) = Heap.mk PT.nil (0 : Nat) ∧ True ∧ True) ∨
        ∃ (x : Nat),
          some (TV.v IV.nilslice) = some (TV.v (IV.vslice (some (0 : Nat)) (List.length (insT l x) * (5 : Nat)) (List.length (insT l x)) (5 : Nat) (List.flatMap cIns (insT l x)))) ∧
            some (TV.v (IV.vslice none (0 : Nat) (List.length l) (1 : Nat) (List.map (IV.int IntKind.i64) l))) = some (TV.v (IV.vslice none (0 : Nat) (List.length l) (1 : Nat) (List.map (IV.int IntKind.i64) l))) ∧
              some (TV.v (IV.int IntKind.i64 m)) = some (TV.v (IV.int IntKind.i64 m)) ∧
                some (TV.v (IV.int IntKind.i64 (0 : Int))) = some (TV.v (IV.int IntKind.i64 (↑x : Int))) ∧
                  Heap.mk PT.nil (0 : Nat) = Heap.mk (PT.node PT.nil (some (IObj.tip (List.length (insT l x) * (5 : Nat)))) PT.nil) (1 : Nat) ∧ (((1 : Nat) ≤ x ∧ x ≤ List.length l) ∧ (↑x : Int) ≤ m) ∧ True) ∧
      (∀ (x : Unit) (b : FF),
          True →
            brS (decide ((0 : Int) < (↑(List.length l) : Int)))
              (brS (decide ((0 : Int) < m))
                (needS (true && decide ((0 : Int) < (↑(List.length l) : Int)))
                  (ldIS IntKind.i64 (List.map (IV.int IntKind.i64) l) (0 : Nat) fun (n0 : Int) =>
                    (∃ (x : Unit),
                        some
                              (TV.v
                                (IV.vslice (some (0 : Nat)) (5 : Nat) (1 : Nat) (5 : Nat)
                                  [IV.int IntKind.i64 (In.op (kin n0)), IV.int IntKind.i64 (In.a (kin n0)), IV.int IntKind.i64 (In.b (kin n0)), IV.int IntKind.i64 (In.c (kin n0)), IV.int IntKind.i64 (In.n (kin n0))])) =
                            some (TV.v IV.nilslice) ∧
                          some (TV.v (IV.vslice none (0 : Nat) (List.length l) (1 : Nat) (List.map (IV.int IntKind.i64) l))) = some (TV.v (IV.vslice none (0 : Nat) (List.length l) (1 : Nat) (List.map (IV.int IntKind.i64) l))) ∧
                            some (TV.v (IV.int IntKind.i64 m)) = some (TV.v (IV.int IntKind.i64 m)) ∧
                              some (TV.v (IV.int IntKind.i64 (1 : Int))) = some (TV.v (IV.int IntKind.i64 (0 : Int))) ∧
                                Heap.mk (PT.node PT.nil (some (IObj.tip (5 : Nat))) PT.nil) ((0 : Nat) + (1 : Nat)) = Heap.mk PT.nil (0 : Nat) ∧ True ∧ List.length l < List.length l) ∨
                      ∃ (x : Nat),
                        some
                              (TV.v
                                (IV.vslice (some (0 : Nat)) (5 : Nat) (1 : Nat) (5 : Nat)
                                  [IV.int IntKind.i64 (In.op (kin n0)), IV.int IntKind.i64 (In.a (kin n0)), IV.int IntKind.i64 (In.b (kin n0)), IV.int IntKind.i64 (In.c (kin n0)), IV.int IntKind.i64 (In.n (kin n0))])) =
                            some (TV.v (IV.vslice (some (0 : Nat)) (List.length (insT l x) * (5 : Nat)) (List.length (insT l x)) (5 : Nat) (List.flatMap cIns (insT l x)))) ∧
                          some (TV.v (IV.vslice none (0 : Nat) (List.length l) (1 : Nat) (List.map (IV.int IntKind.i64) l))) = some (TV.v (IV.vslice none (0 : Nat) (List.length l) (1 : Nat) (List.map (IV.int IntKind.i64) l))) ∧
                            some (TV.v (IV.int IntKind.i64 m)) = some (TV.v (IV.int IntKind.i64 m)) ∧
                              some (TV.v (IV.int IntKind.i64 (1 : Int))) = some (TV.v (IV.int IntKind.i64 (↑x : Int))) ∧
                                Heap.mk (PT.node PT.nil (some (IObj.tip (5 : Nat))) PT.nil) ((0 : Nat) + (1 : Nat)) = Heap.mk (PT.node PT.nil (some (IObj.tip (List.length (insT l x) * (5 : Nat)))) PT.nil) (1 : Nat) ∧
                                  (((1 : Nat) ≤ x ∧ x ≤ List.length l) ∧ (↑x : Int) ≤ m) ∧ List.length l - x < List.length l))
                (Q (IV.vslice none (0 : Nat) (0 : Nat) (5 : Nat) []) h))
              (Q (IV.vslice none (0 : Nat) (0 : Nat) (5 : Nat) []) h)) ∧
        ∀ (x : Nat) (b : FF),
          ((1 : Nat) ≤ x ∧ x ≤ List.length l) ∧ (↑x : Int) ≤ m →
            brS (decide ((↑x : Int) < (↑(List.length l) : Int)))
              (brS (decide ((↑x : Int) < m))
                (needS (decide ((0 : Int) ≤ (↑x : Int)) && decide ((↑x : Int) < (↑(List.length l) : Int)))
                  (ldIS IntKind.i64 (List.map (IV.int IntKind.i64) l) (Int.toNat (↑x : Int) * (1 : Nat)) fun (n1 : Int) =>
                    needS (Nat.beq (List.length (insT l x) * (5 : Nat)) (List.length (insT l x) * (5 : Nat)) && Nat.ble ((List.length (insT l x) + (1 : Nat)) * (40 : Nat)) (140737488355328 : Nat))
                      ((∃ (x_1 : Unit),
                          some
                                (TV.v
                                  (IV.vslice (some (0 : Nat)) (List.length (insT l x) * (5 : Nat) + (5 : Nat)) (List.length (insT l x) + (1 : Nat)) (5 : Nat)
                                    (List.flatMap cIns (insT l x) ++
                                      [IV.int IntKind.i64 (In.op (kin n1)), IV.int IntKind.i64 (In.a (kin n1)), IV.int IntKind.i64 (In.b (kin n1)), IV.int IntKind.i64 (In.c (kin n1)), IV.int IntKind.i64 (In.n (kin n1))]))) =
                              some (TV.v IV.nilslice) ∧
                            some (TV.v (IV.vslice none (0 : Nat) (List.length l) (1 : Nat) (List.map (IV.int IntKind.i64) l))) = some (TV.v (IV.vslice none (0 : Nat) (List.length l) (1 : Nat) (List.map (IV.int IntKind.i64) l))) ∧
                              some (TV.v (IV.int IntKind.i64 m)) = some (TV.v (IV.int IntKind.i64 m)) ∧
                                some (TV.v (IV.int IntKind.i64 (IntKind.wrap IntKind.i64 ((↑x : Int) + (1 : Int))))) = some (TV.v (IV.int IntKind.i64 (0 : Int))) ∧
                                  Heap.mk (PT.node PT.nil (some (IObj.tip (List.length (insT l x) * (5 : Nat) + (5 : Nat)))) PT.nil) (1 : Nat) = Heap.mk PT.nil (0 : Nat) ∧ True ∧ List.length l < List.length l - x) ∨
                        ∃ (x_1 : Nat),
                          some
                                (TV.v
                                  (IV.vslice (some (0 : Nat)) (List.length (insT l x) * (5 : Nat) + (5 : Nat)) (List.length (insT l x) + (1 : Nat)) (5 : Nat)
                                    (List.flatMap cIns (insT l x) ++
                                      [IV.int IntKind.i64 (In.op (kin n1)), IV.int IntKind.i64 (In.a (kin n1)), IV.int IntKind.i64 (In.b (kin n1)), IV.int IntKind.i64 (In.c (kin n1)), IV.int IntKind.i64 (In.n (kin n1))]))) =
                              some (TV.v (IV.vslice (some (0 : Nat)) (List.length (insT l x_1) * (5 : Nat)) (List.length (insT l x_1)) (5 : Nat) (List.flatMap cIns (insT l x_1)))) ∧
                            some (TV.v (IV.vslice none (0 : Nat) (List.length l) (1 : Nat) (List.map (IV.int IntKind.i64) l))) = some (TV.v (IV.vslice none (0 : Nat) (List.length l) (1 : Nat) (List.map (IV.int IntKind.i64) l))) ∧
                              some (TV.v (IV.int IntKind.i64 m)) = some (TV.v (IV.int IntKind.i64 m)) ∧
                                some (TV.v (IV.int IntKind.i64 (IntKind.wrap IntKind.i64 ((↑x : Int) + (1 : Int))))) = some (TV.v (IV.int IntKind.i64 (↑x_1 : Int))) ∧
                                  Heap.mk (PT.node PT.nil (some (IObj.tip (List.length (insT l x) * (5 : Nat) + (5 : Nat)))) PT.nil) (1 : Nat) =
                                      Heap.mk (PT.node PT.nil (some (IObj.tip (List.length (insT l x_1) * (5 : Nat)))) PT.nil) (1 : Nat) ∧
                                    (((1 : Nat) ≤ x_1 ∧ x_1 ≤ List.length l) ∧ (↑x_1 : Int) ≤ m) ∧ List.length l - x_1 < List.length l - x)))
                (needS (pureL [IV.vslice none (0 : Nat) (List.length (insT l x)) (5 : Nat) (List.flatMap cIns (insT l x))]) (Q (IV.vslice none (0 : Nat) (List.length (insT l x)) (5 : Nat) (List.flatMap cIns (insT l x))) h)))
              (needS (pureL [IV.vslice none (0 : Nat) (List.length (insT l x)) (5 : Nat) (List.flatMap cIns (insT l x))]) (Q (IV.vslice none (0 : Nat) (List.length (insT l x)) (5 : Nat) (List.flatMap cIns (insT l x))) h)))) := by kernel_rfl
set_option maxHeartbeats 2000000 in
theorem sInstrs : ∀ xs h Q, kInstrs xs h Q → CallW env 13 xs h Q := by
  intro xs h Q hk
  unfold kInstrs at hk
  split at hk
  · rename_i e1 n1 c1 m
    obtain ⟨l, ⟨rfl, rfl⟩, hb, hk⟩ := hk
    refine dF_sound (okUniqL) (mp_eq (vInstrs l e1 m h Q) ?_)
    obtain ⟨hl, hm⟩ := hb
    have tn : ∀ x : Nat, (x : Int).toNat = x := Int.toNat_natCast
    refine needS_intro (by simp only [pureL, pureB, pureL_ints, Bool.and_true]) ⟨.inl ⟨(), rfl, rfl, rfl, rfl, rfl, trivial, trivial⟩, fun _ _ _ => ?_, fun i _ hi => ?_⟩
    · refine brS_intro (fun c1 => brS_intro (fun c2 => needS_intro (by simpa using c1) ?_) (fun c2 => ?_)) (fun c1 => ?_)
      · rw [decide_eq_true_eq] at c1 c2
        have h0 : 0 < l.length := by omega
        refine ldIS_map (i := 0) h0 (.inr ⟨1, ?_, rfl, rfl, rfl, ?_, ⟨⟨by omega, by omega⟩, by omega⟩, by omega⟩)
        · rw [insT_succ h0]; rfl
        · rw [insT_succ h0]; rfl
      · rw [decide_eq_false_iff_not] at c2
        rw [insK_nil (.inr (by omega))] at hk
        exact hk
      · rw [decide_eq_false_iff_not] at c1
        rw [insK_nil (.inl (by omega))] at hk
        exact hk
    · obtain ⟨⟨h1, h2⟩, h3⟩ := hi
      have hil := insT_len h2
      refine brS_intro (fun c1 => brS_intro (fun c2 => needS_intro (by simp at c1; simp; omega) ?_) (fun c2 => ?_)) (fun c1 => ?_)
      · rw [decide_eq_true_eq] at c1 c2
        have h0 : i < l.length := by omega
        rw [tn, Nat.mul_one]
        refine ldIS_map (i := i) h0 (needS_intro (by simp [nbeq_t]; omega) (.inr ⟨i + 1, ?_, (by first | rfl | trivial), (by first | rfl | trivial), ?_, ?_, ⟨⟨by omega, by omega⟩, by omega⟩, by omega⟩))
        · rw [insT_succ h0]
          simp [Nat.add_mul, cIns]
        · rw [IntWalk.i64_in _ (by omega)]; rfl
        · rw [insT_succ h0]
          simp [Nat.add_mul]
      · rw [decide_eq_false_iff_not] at c2
        rw [insK_end h2 h3 (.inr c2)] at hk
        exact needS_intro (by simp only [pureL, pureB, pureL_in, Bool.and_true]) hk
      · rw [decide_eq_false_iff_not] at c1
        rw [insK_end h2 h3 (.inl (by omega))] at hk
        exact needS_intro (by simp only [pureL, pureB, pureL_in, Bool.and_true]) hk
  · exact hk.elim
def cInstrs := addC 13 kInstrs cUniqL
theorem okInstrs : Sound env cInstrs := sound_add sInstrs (okUniqL)

def sinInv (l m : List In) : Inv' := atX Nat (fun i => [(0, .v (.vslice none 0 (l).length 5 ((l).flatMap cIns))), (1, .v (.vslice none 0 (m).length 5 ((m).flatMap cIns))), (5, .v (.int .i64 i))]) (fun _ => []) (fun _ => Heap.empty)
  (fun i => (l.length = m.length ∧ i ≤ l.length) ∧ ∀ j, j < i → l[j]? = m[j]?) (fun i => l.length - i)
def kSameInstrs (xs : List IV) (h : Heap) (K : IV → Heap → Prop) : Prop := match xs with
  | [.vslice none e1 n1 5 c1, .vslice none e2 n2 5 c2] => ∃ l m : List In, (n1 = l.length ∧ c1 = l.flatMap cIns) ∧ (n2 = m.length ∧ c2 = m.flatMap cIns) ∧ l.length < 4611686018427387904 ∧ K (.bool (decide (l = m))) h
  | _ => False
set_option maxRecDepth 100000 in
theorem vSameInstrs (l m : List In) (e1 e2 : Nat) (h : Heap) (Q : IV → Heap → Prop) : dF (stdS cInstrs) env 22 noU (ic1 5 (sinInv l m)) noI [.vslice none e1 (l).length 5 ((l).flatMap cIns), .vslice none e2 (m).length 5 ((m).flatMap cIns)] h Q = (
  needS (pureL [IV.vslice none (0 : Nat) (List.length l) (5 : Nat) (List.flatMap cIns l), IV.vslice none (0 : Nat) (List.length m) (5 : Nat) (List.flatMap cIns m)])
    (brS ((↑(List.length l) : Int) != (↑(List.length m) : Int)) (Q (IV.bool false) h)
      ((∃ (x : Nat),
          some (TV.v (IV.vslice none (0 : Nat) (List.length l) (5 : Nat) (List.flatMap cIns l))) = some (TV.v (IV.vslice none (0 : Nat) (List.length l) (5 : Nat) (List.flatMap cIns l))) ∧
            some (TV.v (IV.vslice none (0 : Nat) (List.length m) (5 : Nat) (List.flatMap cIns m))) = some (TV.v (IV.vslice none (0 : Nat) (List.length m) (5 : Nat) (List.flatMap cIns m))) ∧
              some (TV.v (IV.int IntKind.i64 (0 : Int))) = some (TV.v (IV.int IntKind.i64 (↑x : Int))) ∧
                Heap.mk PT.nil (0 : Nat) = Heap.mk PT.nil (0 : Nat) ∧ ((List.length l = List.length m ∧ x ≤ List.length l) ∧ ∀ (j : Nat), j < x → l[j]? = m[j]?) ∧ True) ∧
        ∀ (x : Nat) (b : FF),
          ((List.length l = List.length m ∧ x ≤ List.length l) ∧ ∀ (j : Nat), j < x → l[j]? = m[j]?) →
            brS (decide ((↑x : Int) < (↑(List.length l) : Int)))
              (needS (decide ((0 : Int) ≤ (↑x : Int)) && decide ((↑x : Int) < (↑(List.length l) : Int)))
                (ldIS IntKind.i64 (List.flatMap cIns l) (Int.toNat (↑x : Int) * (5 : Nat)) fun (n0 : Int) =>
                  ldIS IntKind.i64 (List.flatMap cIns l) (Int.toNat (↑x : Int) * (5 : Nat) + (1 : Nat)) fun (n1 : Int) =>
                    ldIS IntKind.i64 (List.flatMap cIns l) (Int.toNat (↑x : Int) * (5 : Nat) + (1 : Nat) + (1 : Nat)) fun (n2 : Int) =>
                      ldIS IntKind.i64 (List.flatMap cIns l) (Int.toNat (↑x : Int) * (5 : Nat) + (1 : Nat) + (1 : Nat) + (1 : Nat)) fun (n3 : Int) =>
                        ldIS IntKind.i64 (List.flatMap cIns l) (Int.toNat (↑x : Int) * (5 : Nat) + (1 : Nat) + (1 : Nat) + (1 : Nat) + (1 : Nat)) fun (n4 : Int) =>
                          needS (decide ((0 : Int) ≤ (↑x : Int)) && decide ((↑x : Int) < (↑(List.length m) : Int)))
                            (ldIS IntKind.i64 (List.flatMap cIns m) (Int.toNat (↑x : Int) * (5 : Nat)) fun (n5 : Int) =>
                              ldIS IntKind.i64 (List.flatMap cIns m) (Int.toNat (↑x : Int) * (5 : Nat) + (1 : Nat)) fun (n6 : Int) =>
                                ldIS IntKind.i64 (List.flatMap cIns m) (Int.toNat (↑x : Int) * (5 : Nat) + (1 : Nat) + (1 : Nat)) fun (n7 : Int) =>
                                  ldIS IntKind.i64 (List.flatMap cIns m) (Int.toNat (↑x : Int) * (5 : Nat) + (1 : Nat) + (1 : Nat) + (1 : Nat)) fun (n8 : Int) =>
                                    ldIS IntKind.i64 (List.flatMap cIns m) (Int.toNat (↑x : Int) * (5 : Nat) + (1 : Nat) + (1 : Nat) + (1 : Nat) + (1 : Nat)) fun (n9 : Int) =>
                                      brS (!(n0 == n5 && (n1 == n6 && (n2 == n7 && (n3 == n8 && (n4 == n9 && true)))))) (Q (IV.bool false) h)
                                        (∃ (x_1 : Nat),
                                          some (TV.v (IV.vslice none (0 : Nat) (List.length l) (5 : Nat) (List.flatMap cIns l))) = some (TV.v (IV.vslice none (0 : Nat) (List.length l) (5 : Nat) (List.flatMap cIns l))) ∧
                                            some (TV.v (IV.vslice none (0 : Nat) (List.length m) (5 : Nat) (List.flatMap cIns m))) = some (TV.v (IV.vslice none (0 : Nat) (List.length m) (5 : Nat) (List.flatMap cIns m))) ∧
                                              some (TV.v (IV.int IntKind.i64 (IntKind.wrap IntKind.i64 ((↑x : Int) + (1 : Int))))) = some (TV.v (IV.int IntKind.i64 (↑x_1 : Int))) ∧
                                                Heap.mk PT.nil (0 : Nat) = Heap.mk PT.nil (0 : Nat) ∧ ((List.length l = List.length m ∧ x_1 ≤ List.length l) ∧ ∀ (j : Nat), j < x_1 → l[j]? = m[j]?) ∧ List.length l - x_1 < List.length l - x))))
              (Q (IV.bool true) h)))) := by kernel_rfl
set_option maxHeartbeats 2000000 in
theorem sSameInstrs : ∀ xs h Q, kSameInstrs xs h Q → CallW env 22 xs h Q := by
  intro xs h Q hk
  unfold kSameInstrs at hk
  split at hk
  · rename_i e1 n1 c1 e2 n2 c2
    obtain ⟨l, m, ⟨rfl, rfl⟩, ⟨rfl, rfl⟩, hb, hk⟩ := hk
    refine dF_sound (okInstrs) (mp_eq (vSameInstrs l m e1 e2 h Q) ?_)
    have tn : ∀ x : Nat, (x : Int).toNat = x := Int.toNat_natCast
    refine needS_intro (by simp only [pureL, pureB, pureL_in, Bool.and_true]) (brS_intro (fun hc => q_eq hk ?_) (fun hc => ?_))
    · congr 1
      have : l ≠ m := fun e => by subst e; simp at hc
      simpa using this
    have hl : l.length = m.length := by simp at hc; omega
    refine ⟨⟨0, rfl, rfl, rfl, rfl, ⟨⟨hl, by omega⟩, fun j hj => by omega⟩, trivial⟩, fun i _ hi => brS_intro (fun c1 => ?_) (fun c1 => q_eq hk ?_)⟩
    · simp only [decide_eq_true_eq] at c1
      have hi1 : i < l.length := by omega
      have hi2 : i < m.length := by omega
      refine needS_intro (by simp; omega) (ldIn hi1 (by rw [tn]) (needS_intro (by simp; omega) (ldIn hi2 (by rw [tn]) (brS_intro (fun c2 => q_eq hk ?_) (fun c2 => ?_)))))
      · congr 1
        have : l ≠ m := fun e => by subst e; simp at c2
        simpa using this
      · rw [Bool.not_eq_false'] at c2
        have he := in_eq c2
        refine ⟨i + 1, rfl, rfl, ?_, rfl, ⟨⟨hl, by omega⟩, fun j hj => ?_⟩, by omega⟩
        · rw [IntWalk.i64_in _ (by omega)]; rfl
        rcases Nat.lt_or_ge j i with q | q
        · exact hi.2 j q
        · obtain rfl : j = i := by omega
          rw [List.getElem?_eq_getElem hi1, List.getElem?_eq_getElem hi2, he]
    · simp only [decide_eq_false_iff_not] at c1
      have : l = m := List.ext_getElem? fun j => by
        rcases Nat.lt_or_ge j i with q | q
        · exact hi.2 j q
        · rw [List.getElem?_eq_none (by omega), List.getElem?_eq_none (by omega)]
      simp [this]
  · exact hk.elim
def cSameInstrs := addC 22 kSameInstrs cInstrs
theorem okSameInstrs : Sound env cSameInstrs := sound_add sSameInstrs (okInstrs)

end Go.Proofs.YtiecmbfcgjaflaaDoor
